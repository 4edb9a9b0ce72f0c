/- Part 5 of what the proof rests on. No condition. -/
import Derived.Test.YtomlallhlakhfaaGreatDoorZp4
import Derived.ArgAppend
set_option linter.unusedVariables false
set_option linter.unusedSimpArgs false
set_option maxRecDepth 100000
set_option maxHeartbeats 4000000
namespace Go.Proofs.YtomlallhlakhfaaGreatDoor
section
open Go Sx Wd
theorem dlx(x y:Dy)(vn vd:Value)(mode:Int)(w:World)(hm:0<=mode/\mode<=4)(G:NU w vn (wd x.m))(H:NU w vd (wd y.m))(hx:x.ok)(hy:y.ok):Ret Tryz.prog 237 [.agg [.int .i64 53,.int .i64 (-1074),.int .u64 9218868437227405312].toArray,.agg [.bool x.neg,vn,.int .i64 x.e,.bool y.neg,vd,.int .i64 y.e].toArray,.bool false,.int .i64 mode] w λu w'=>∃ r:Nat,u = .int .u64 (r:Int)/\mX (dyA x.m (x.e-y.e)) (y.m*dyB (x.e-y.e)) x.neg mode r/\r<=9218868437227405312/\Chg [] w w':=by
 have i:=crf w;have i9:=G.one;have k1:=H.one;obtain ⟨A,hA⟩ : ∃ A,A=(dyA x.m (x.e-y.e)):=⟨_,rfl⟩;obtain ⟨B,hB⟩ : ∃ B,B=(y.m*dyB (x.e-y.e)):=⟨_,rfl⟩;rw[<- hA,<- hB];refine zE4 Tryz.func237 rfl ?_;refine Sr λ_ h7=>?_;refine zBh rfl rfl rfl i λb4 l1 n Y k3 f8 i=>?_;have G:=G.q8 Y;have H:=H.q8 Y;refine zBh rfl rfl rfl i λb5 l0 l J f9 f7 i=>?_;have G:=G.q8 J;have H:=H.q8 J;have g4:=zdd n.lt f9;have n:=n.k0 J;refine za rfl (zz (h7 (Sr λ_ h6=>za rfl (zz (h6 (Sr λ_ h5=>zf rfl (zl n rfl rfl (za rfl (zz (h5 (zc λ_ h4=>CW.block ?_)))))))))));refine CW.loop (S:=λg:Nat×Nat=>[(2,.bool false),(3,.int .i64 mode),(4,.pointer (some ⟨b4,0,none⟩)),(5,.pointer (some ⟨b5,0,none⟩)),(9,.int .u64 (g.1:Int)),(10,.int .u64 (g.2:Int))]) (Inv:=KNb x y A B w b4 b5 vn vd) (mu:=λg=>g.2-g.1) ((0,9218868437227405312)) ?_ ?_ ?_
 ·exact ⟨by decide,Nat.le_refl _,by rw[show nz 0=0 from rfl,Nat.mul_zero,Nat.zero_mul];exact Nat.zero_le _,.inr rfl,n,l,G,H,i⟩
 ·exact SLp
 rintro ⟨f,t⟩ wr ⟨i3,ht,s,a2,n,l,G,H,i⟩;dsimp only at i3 ht s a2;dsimp only;refine zc λ_ h3=>Sr λ_ h2=>zm rfl (zm rfl ?_)
 first|refine WL.ev (Ev.bfx rfl rfl oO oO) rfl ?_|refine WL.ev (Ev.czj rfl rfl oO) rfl ?_
 refine zG rfl rfl (zz (h2 ?_));refine zy rfl ?_ ?_<;>intro i5<;>try simp only[qs] at i5
 ·have i0:f<(f+t)/2:=by omega
  have h9:(f+t)/2<t:=by omega
  refine zkk (h3 (CW.block (Sr λ_ f5=>zm rfl (zm rfl ?_))))
  first|refine WL.ev (Ev.iJ rfl rfl oO) rfl ?_|refine WL.ev (Ev.abq rfl rfl) rfl ?_
  refine WL.ev (Ev.dlq (b:=2) rfl rfl oO (jX oO).2) rfl ?_;refine za rfl (zz (f5 (Sr λ_ f4=>zg n rfl (zm rfl ?_))));refine WL.call hasF226 rfl rfl (qZ ((f+t)/2) _ oO) λv w1 R=>?_;obtain ⟨⟨va,rfl,i7⟩,z⟩:=R;have i:=i.ta z;have n:=n.k0 z;have l:=l.k0 z;have G:=G.q8 z;have H:=H.q8 z;refine zm rfl (zx rfl rfl (zx rfl rfl (za rfl (za rfl (zz (f4 (Sr λ_ f3=>zm rfl (zm rfl (zg l rfl (zm rfl ?_))))))))));refine WL.call hasF257 rfl rfl (a5q _ _ _ _ _ _ _ _ _ _ _ _ i7 (by have:=a1j ((f+t)/2) oO;omega) (by have:=bgj ((f+t)/2);omega) G H hx.e hy.e hx.len hy.len) λv w2 R=>?_;obtain ⟨rfl,z⟩:=R;rw[g7,g7,g7,cmp_num oO,<- hB,<- hA];have i:=i.ta z;have n:=n.k0 z;have l:=l.k0 z;have G:=G.q8 z;have H:=H.q8 z;refine zQ rfl rfl (zz (f3 ?_));refine zy rfl ?_ ?_<;>intro g2<;>try simp only[qs] at g2
  ·have a1:2*nz ((f+t)/2)*B<=A:=bjx.1 g2
   refine zS λ_ b9=>zm rfl (za rfl (zz (b9 ?_)));refine ⟨rfl,((f+t)/2,t),?_,?_,?_⟩
   ·exact SLp
   ·exact ⟨h9,ht,a1,a2,n,l,G,H,i⟩
   show t-(f+t)/2<t-f;omega
  have a1:A<2*nz ((f+t)/2)*B:=Nat.lt_of_not_le λq=>by have:=bjx.2 q;omega
  refine zS λ_ b8=>zm rfl (za rfl (zz (b8 ?_)));refine ⟨rfl,(f,(f+t)/2),?_,?_,?_⟩
  ·exact SLp
  ·exact ⟨i0,by dsimp only;omega,s,.inl a1,n,l,G,H,i⟩
  show (f+t)/2-f<t-f;omega
 have et:t=f+1:=by omega
 subst et;have k:f<9218868437227405312:=by omega
 have o:=a2;refine CW.exit ?_;refine h4 (Sr λ_ f2=>zg n rfl (zm rfl ?_));refine WL.call hasF226 rfl rfl (qZ (f) _ oO) λv w3 R=>?_;obtain ⟨⟨vc,rfl,i6⟩,z⟩:=R;have i:=i.ta z;have n:=n.k0 z;have l:=l.k0 z;have G:=G.q8 z;have H:=H.q8 z;refine zm rfl (zx rfl rfl (zx rfl rfl (za rfl (za rfl (zz (f2 (zc λ_ f1=>Sr λ_ f0=>zm rfl (zm rfl (zg l rfl (zm rfl ?_))))))))));refine WL.call hasF257 rfl rfl (a5q _ _ _ _ _ _ _ _ _ _ _ _ i6 (by have:=a1j (f) oO;omega) (by have:=bgj (f);omega) G H hx.e hy.e hx.len hy.len) λv w4 R=>?_;obtain ⟨rfl,z⟩:=R;rw[g7,g7,g7,cmp_num oO,<- hB,<- hA];have i:=i.ta z;have n:=n.k0 z;have l:=l.k0 z;have G:=G.q8 z;have H:=H.q8 z;refine zq rfl rfl (zz (f0 ?_));refine zy rfl ?_ ?_<;>intro a5<;>try simp only[qs] at a5
 ·have he:=bmx.1 a5
  refine Sr λ_ e9=>zm rfl (za rfl (zz (e9 ?_)));refine zr (zr1 rfl rfl ?_);exact ⟨f,rfl,near_eq k o he,by omega,i⟩
 have D:2*nz f*B≠A:=λq=>a5 (bmx.2 q);have l2:=cuq f;obtain ⟨d,i4⟩ : ∃ d:Nat,(d:Int)=pZ (f+1)-pZ f:=⟨(pZ (f+1)-pZ f).toNat,by omega⟩;refine zkk (f1 (Sr λ_ e8=>zg n rfl (zm rfl (zg l rfl (zm rfl ?_)))));refine WL.call hasF258 rfl rfl (r11half_spec f _ _ _ _ _ _ _ _ _ k G H hx.e hy.e hx.len hy.len) λv w5 R=>?_;obtain ⟨rfl,z⟩:=R;rw[g7,g7,show (pZ (f+1)-pZ f).toNat=d by omega,cmp_mid oO i4,<- hB,<- hA];obtain ⟨M,hM⟩ : ∃ M,M=(nz f+nz (f+1))*B:=⟨_,rfl⟩;rw[<- hM];have f6:=bjx (a:=M) (b:=A);have h8:=bmx (a:=M) (b:=A);obtain ⟨h,hh⟩ : ∃ h,h=sgn M A:=⟨_,rfl⟩;rw[<- hh] at f6 h8;rw[<- hh];have i:=i.ta z;have l:=l.k0 z;refine za rfl (zz (e8 (Sr λ_ e7=>za rfl (zz (e7 (zc λ_ C=>Sr λ_ e6=>zm rfl (zz (e6 (CW.block (Sr λ_ e5=>zq rfl rfl (za rfl (zz (e5 ?_)))))))))))));refine zy rfl ?_ ?_<;>intro g1<;>try simp only[qs] at g1
 ·have F:mode=0:=g1
  refine zR λ_ I=>?_;refine zm rfl (zL rfl rfl (zm rfl ?_));refine zb ?_ ?_<;>intro i2<;>try simp only[qs] at i2
  ·have j:upM mode x.neg f A ((nz f+nz (f+1))*B)=true:=by
    rw[<- hM,F,b4q,decide_eq_true (show M<A by omega)];rfl
   refine zv rfl (zv rfl (zv rfl (zu rfl (zu rfl (zu rfl (zv rfl (zt rfl rfl (za rfl ?_))))))));refine WL.nil (I _ _ _ (C ?_));refine zc λ_ e4=>Sr λ_ e3=>zm rfl (zz (e3 ?_));refine CW.nJ rfl ?_;refine zR λ_ b7=>?_;refine zm rfl ?_
   first|refine WL.ev (Ev.iJ (b:=1) rfl rfl oO) rfl ?_|refine WL.ev (Ev.abq (b:=1) rfl rfl) rfl ?_
   refine za rfl ?_;refine WL.nil (b7 _ _ _ (e4 ?_));refine Sr λ_ e2=>zm rfl (za rfl (zz (e2 ?_)));refine zr (zr1 rfl rfl ?_);exact ⟨f+1,rfl,pX k s o D (on:=true) (by first|exact j|exact j.trans p) rfl,by omega,i⟩
  refine zw rfl (zm rfl (zw rfl (zq rfl rfl (zw rfl (zm rfl ?_)))));refine zb ?_ ?_<;>intro i1<;>try simp only[qs] at i1
  ·have j:upM mode x.neg f A ((nz f+nz (f+1))*B)=decide (f%2=1):=by
    rw[<- hM,F,b4q,decide_eq_false (show ¬M<A by omega),decide_eq_true (show M=A by omega)];simp
   refine zw rfl (zm rfl (zw rfl ?_));refine WL.ev (Ev.dhx (b:=2) rfl rfl oO) rfl ?_;refine zw rfl (zq rfl rfl ?_);rw[show decide (((f%2:Nat):Int)=1)=decide (f%2=1) from decide_eq_decide.2 oO];refine zw rfl (zt rfl rfl (ze rfl rfl (za rfl ?_)));refine WL.nil (I _ _ _ (C ?_));refine zc λ_ X=>Sr λ_ e1=>zm rfl (zz (e1 ?_));refine zy rfl ?_ ?_<;>intro a4<;>try simp only[qs] at a4
   ·have p:=decide_eq_true a4
    refine zR λ_ b6=>?_;refine zm rfl ?_
    first|refine WL.ev (Ev.iJ (b:=1) rfl rfl oO) rfl ?_|refine WL.ev (Ev.abq (b:=1) rfl rfl) rfl ?_
    refine za rfl ?_;refine WL.nil (b6 _ _ _ (X ?_));refine Sr λ_ e0=>zm rfl (za rfl (zz (e0 ?_)));refine zr (zr1 rfl rfl ?_);exact ⟨f+1,rfl,pX k s o D (on:=true) (by first|exact j|exact j.trans p) rfl,by omega,i⟩
   have p:=decide_eq_false a4;refine zkk (X (Sr λ_ d9=>zm rfl (za rfl (zz (d9 ?_)))));refine zr (zr1 rfl rfl ?_);exact ⟨f,rfl,pX k s o D (on:=false) (by first|exact j|exact j.trans p) rfl,by omega,i⟩
  have j:upM mode x.neg f A ((nz f+nz (f+1))*B)=false:=by
   rw[<- hM,F,b4q,decide_eq_false (show ¬M<A by omega),decide_eq_false (show ¬M=A by omega)];rfl
  refine zv rfl (zv rfl (zv rfl (zw rfl (ze rfl rfl (ze rfl rfl (za rfl ?_))))));refine WL.nil (I _ _ _ (C ?_));refine zc λ_ d8=>Sr λ_ d7=>zm rfl (zz (d7 ?_));refine CW.mQ rfl ?_;refine zkk (d8 (Sr λ_ d6=>zm rfl (za rfl (zz (d6 ?_)))));refine zr (zr1 rfl rfl ?_);exact ⟨f,rfl,pX k s o D (on:=false) (by first|exact j|exact j.trans p) rfl,by omega,i⟩
 refine Sr λ_ d5=>zq rfl rfl (za rfl (zz (d5 ?_)));refine zy rfl ?_ ?_<;>intro g0<;>try simp only[qs] at g0
 ·have F:mode=2:=g0
  have j:upM mode x.neg f A ((nz f+nz (f+1))*B) = !x.neg:=by rw[F,up_up]
  refine zR λ_ b3=>?_;refine zf rfl (zf rfl (zl l rfl rfl (zT rfl (za rfl ?_))));refine WL.nil (b3 _ _ _ (C ?_));refine zc λ_ V=>Sr λ_ d4=>zm rfl (zz (d4 ?_));refine zy rfl ?_ ?_<;>intro a3<;>try simp only[qs] at a3
  ·have p:(!x.neg)=true:=by simpa using a3
   refine zR λ_ b2=>?_;refine zm rfl ?_
   first|refine WL.ev (Ev.iJ (b:=1) rfl rfl oO) rfl ?_|refine WL.ev (Ev.abq (b:=1) rfl rfl) rfl ?_
   refine za rfl ?_;refine WL.nil (b2 _ _ _ (V ?_));refine Sr λ_ d3=>zm rfl (za rfl (zz (d3 ?_)));refine zr (zr1 rfl rfl ?_);exact ⟨f+1,rfl,pX k s o D (on:=true) (by first|exact j|exact j.trans p) rfl,by omega,i⟩
  have p:(!x.neg)=false:=by simpa using a3
  refine zkk (V (Sr λ_ d2=>zm rfl (za rfl (zz (d2 ?_)))));refine zr (zr1 rfl rfl ?_);exact ⟨f,rfl,pX k s o D (on:=false) (by first|exact j|exact j.trans p) rfl,by omega,i⟩
 refine Sr λ_ d1=>zq rfl rfl (za rfl (zz (d1 ?_)));refine zy rfl ?_ ?_<;>intro a0<;>try simp only[qs] at a0
 ·have F:mode=3:=a0
  have j:upM mode x.neg f A ((nz f+nz (f+1))*B)=x.neg:=by rw[F,up_down]
  refine zR λ_ b1=>?_;refine zf rfl (zf rfl (zl l rfl rfl (za rfl ?_)));refine WL.nil (b1 _ _ _ (C ?_));refine zc λ_ U=>Sr λ_ d0=>zm rfl (zz (d0 ?_));refine zy rfl ?_ ?_<;>intro Q<;>try simp only[qs] at Q
  ·have p:x.neg=true:=by simpa using Q
   refine zR λ_ b0=>?_;refine zm rfl ?_
   first|refine WL.ev (Ev.iJ (b:=1) rfl rfl oO) rfl ?_|refine WL.ev (Ev.abq (b:=1) rfl rfl) rfl ?_
   refine za rfl ?_;refine WL.nil (b0 _ _ _ (U ?_));refine Sr λ_ c9=>zm rfl (za rfl (zz (c9 ?_)));refine zr (zr1 rfl rfl ?_);exact ⟨f+1,rfl,pX k s o D (on:=true) (by first|exact j|exact j.trans p) rfl,by omega,i⟩
  have p:x.neg=false:=by simpa using Q
  refine zkk (U (Sr λ_ c8=>zm rfl (za rfl (zz (c8 ?_)))));refine zr (zr1 rfl rfl ?_);exact ⟨f,rfl,pX k s o D (on:=false) (by first|exact j|exact j.trans p) rfl,by omega,i⟩
 refine Sr λ_ c7=>zq rfl rfl (za rfl (zz (c7 ?_)));refine zy rfl ?_ ?_<;>intro Z<;>try simp only[qs] at Z
 ·have F:mode=4:=Z
  have j:upM mode x.neg f A ((nz f+nz (f+1))*B)=decide (h<=0):=by rw[<- hM,F,up_away];exact decide_eq_decide.2 f6.symm
  refine zR λ_ a9=>?_;refine zm rfl (zQ rfl rfl (za rfl ?_));refine WL.nil (a9 _ _ _ (C ?_));refine zc λ_ T=>Sr λ_ c6=>zm rfl (zz (c6 ?_));refine zy rfl ?_ ?_<;>intro O<;>try simp only[qs] at O
  ·have p:decide (h<=0)=true:=decide_eq_true (by have:=O;omega);refine zR λ_ a8=>?_
   refine zm rfl ?_
   first|refine WL.ev (Ev.iJ (b:=1) rfl rfl oO) rfl ?_|refine WL.ev (Ev.abq (b:=1) rfl rfl) rfl ?_
   refine za rfl ?_;refine WL.nil (a8 _ _ _ (T ?_));refine Sr λ_ c5=>zm rfl (za rfl (zz (c5 ?_)));refine zr (zr1 rfl rfl ?_);exact ⟨f+1,rfl,pX k s o D (on:=true) (by first|exact j|exact j.trans p) rfl,by omega,i⟩
  have p:decide (h<=0)=false:=decide_eq_false (by have:=O;omega);refine zkk (T (Sr λ_ c4=>zm rfl (za rfl (zz (c4 ?_)))));refine zr (zr1 rfl rfl ?_);exact ⟨f,rfl,pX k s o D (on:=false) (by first|exact j|exact j.trans p) rfl,by omega,i⟩
 have F:mode=1:=by omega
 have j:upM mode x.neg f A ((nz f+nz (f+1))*B)=false:=by rw[F,up_zero]
 refine zkk (C (zc λ_ c3=>Sr λ_ c2=>zm rfl (zz (c2 ?_))));refine CW.mQ rfl ?_;refine zkk (c3 (Sr λ_ c1=>zm rfl (za rfl (zz (c1 ?_)))));refine zr (zr1 rfl rfl ?_);exact ⟨f,rfl,pX k s o D (on:=false) (by first|exact j|exact j.trans p) rfl,by omega,i⟩
def RdP(u:Value)(nn nd:Bool)(ln ld:Nat)(en ed mode:Int):Prop:=
  (¬(0<=mode/\mode<=4)/\u = .tuple [.int .u64 0,.bool false,.int .i64 1].toArray)\/((0<=mode/\mode<=4)/\
    ((sgD nd ld<0/\u = .tuple [.int .u64 0,.bool false,.int .i64 1].toArray)\/(0<=sgD nd ld/\(cX nn ln en=none\/cX nd ld ed=none)/\u = .tuple [.int .u64 0,.bool false,.int .i64 2].toArray)\/
     (0<=sgD nd ld/\∃ x y,cX nn ln en=some x/\cX nd ld ed=some y/\((y.m=0/\u = .tuple [.int .u64 0,.bool false,.int .i64 21].toArray)\/
       (y.m≠0/\∃ r:Nat,mX (dyA x.m (x.e-y.e)) (y.m*dyB (x.e-y.e)) x.neg mode r/\r<=9218868437227405312/\u = .tuple [.int .u64 (r:Int),.bool x.neg,.int .i64 0].toArray)))))
theorem c3q(nn nd:Bool)(vn vd:Value)(ln ld:List Nat)(G H:Int)(mode:Int)(w:World)(q:NU w vn ln)(s:NU w vd ld)(c9 : -9223372036854775808<=G/\G<=9223372036854775807)(d0 : -9223372036854775808<=H/\H<=9223372036854775807)(c5:ln.length<=34359738368)(c6:ld.length<=34359738368):Ret Tryz.prog 185 [.agg [.int .i64 53,.int .i64 (-1074),.int .u64 9218868437227405312].toArray,.agg [.bool nn,vn,.int .i64 G,.bool nd,vd,.int .i64 H].toArray,.bool false,.int .i64 mode] w λu w'=>RdP u nn nd (val ln) (val ld) G H mode/\Chg [] w w':=by
 have a:=crf w;have d9:=q.one;have e0:=s.one;refine zE4 Tryz.func185 rfl ?_;refine Sr λ_ c3=>?_;refine zBh rfl rfl rfl a λb4 e4 b t e1 a5 a=>?_;have q:=q.q8 t;have s:=s.q8 t;refine zBh rfl rfl rfl a λb5 e3 d1 k a6 a4 a=>?_;have q:=q.q8 k;have s:=s.q8 k;have b6:=zdd b.lt a6;have b:=b.k0 k;refine za rfl (za rfl (za rfl (zz (c3 (zc λ_ c2=>?_)))));refine CW.oX 18 (decide (mode<0\/4<mode)) ?_ ?_
 ·refine zS λ_ J=>zm rfl (zL rfl rfl (zm rfl ?_));refine zb ?_ ?_<;>intro c8<;>try simp only[qs] at c8
  ·refine zv rfl (zv rfl (zt rfl rfl (zz (J ?_))));refine ⟨rfl,rfl,j0.g8 rfl ?_ ?_⟩
   ·first|(simp;omega)|(simp_all;done)|(refine decide_eq_decide.2 ?_;omega)
   exact SMg
  refine zw rfl (zm rfl (zw rfl (zG rfl rfl (ze rfl rfl (zz (J ?_))))));refine ⟨rfl,rfl,j0.g8 rfl ?_ ?_⟩
  ·first|(simp;omega)|(simp_all;done)|(refine decide_eq_decide.2 ?_;omega)
  exact SMg
 refine zy rfl ?_ ?_<;>intro A<;>try simp only[qs] at A
 ·have F:=A
  refine Sr λ_ c1=>za rfl (za rfl (za rfl (zz (c1 ?_))));refine zr ?_;refine k9.ret3 rfl rfl rfl rfl ?_;exact ⟨.inl ⟨by omega,rfl⟩,a⟩
 have F:0<=mode/\mode<=4:=by have:=A;omega
 refine zkk (c2 (Sr λ_ l=>zg d1 rfl ?_));refine WL.buildSlice (m:=1) (cs:=[.bool nn,vn,.int .i64 G,.bool nd,vd,.int .i64 H]) oD oD rfl oR rfl λa9 b7 h=>?_;have d:=h.chg;have a7:BK b7 a9 _ [.bool nn,vn,.int .i64 G,.bool nd,vd,.int .i64 H]:=h.at_;have c7:=h.ge;have a:=a.trans d;have q:=q.q8 d;have s:=s.q8 d;have b:=b.k0 d;refine WL.call hasF236 rfl rfl (r11may_spec a9 _ _ _ _ _ _ _ _ _ a7 q s c9 d0 c5 c6) λv w1 h'=>?_;obtain ⟨hD,x⟩:=h';have a:=a.ta x;have b:=b.k0 x;rcases hD with ⟨z,rfl⟩|⟨z,c4,rfl⟩|⟨z,I,dy,p,o,y,rfl⟩|⟨z,I,dy,p,o,y,gg,cc,rx,ry,rfl,n,D,C⟩
 ·refine zm rfl (zx rfl rfl (zx rfl rfl (za rfl (za rfl (zz (l (zc λ_ e5=>Sr λ_ a1=>zm rfl (zN rfl rfl (zz (a1 ?_))))))))));refine CW.nJ rfl ?_;refine Sr λ_ a0=>zm rfl (za rfl (za rfl (za rfl (zz (a0 ?_)))));refine zr ?_;refine k9.ret3 rfl rfl rfl rfl ?_;exact ⟨.inr ⟨F,.inl ⟨z,rfl⟩⟩,a⟩
 ·refine zm rfl (zx rfl rfl (zx rfl rfl (za rfl (za rfl (zz (l (zc λ_ d7=>Sr λ_ Z=>zm rfl (zN rfl rfl (zz (Z ?_))))))))));refine CW.nJ rfl ?_;refine Sr λ_ Y=>zm rfl (za rfl (za rfl (za rfl (zz (Y ?_)))));refine zr ?_;refine k9.ret3 rfl rfl rfl rfl ?_;exact ⟨.inr ⟨F,.inr (.inl ⟨z,c4,rfl⟩)⟩,a⟩
 ·refine zm rfl (zx rfl rfl (zx rfl rfl (za rfl (za rfl (zz (l (zc λ_ d6=>Sr λ_ X=>zm rfl (zN rfl rfl (zz (X ?_))))))))));refine CW.nJ rfl ?_;refine Sr λ_ V=>zm rfl (za rfl (za rfl (za rfl (zz (V ?_)))));refine zr ?_;refine k9.ret3 rfl rfl rfl rfl ?_;exact ⟨.inr ⟨F,.inr (.inr ⟨z,I,dy,p,o,.inl ⟨y,rfl⟩⟩)⟩,a⟩
 have a3:=jZ p;have a2:=jZ o;have e6:=n.lt (by simp[clx]);refine zm rfl (zx rfl rfl (zx rfl rfl (za rfl (za rfl (zz (l (zc λ_ U=>Sr λ_ T=>zm rfl (zN rfl rfl (zz (T ?_))))))))));refine CW.mQ rfl ?_;refine zkk (U (zc λ_ R=>Sr λ_ Q=>zm rfl (zm rfl (zv rfl (zv rfl (zv rfl (zv rfl (zv rfl (ze rfl rfl (zz (Q ?_)))))))))));refine CW.mQ rfl ?_;refine zkk (R (zc λ_ O=>?_));refine CW.cQ 15 rfl dZ λd8 M e j=>?_;have a:=a.ta j;have b:=b.k0 j;have n:=n.q8 j;have D:=D.q8 j;have C:=C.q8 j;have B:=b;have g:=n;refine wh 0 rfl e (λ_ f=>Ev.rZ rfl rfl (B.q8 f) rfl) (wh 1 rfl e (eM rfl) (wh 2 rfl e (λ_ _=>Ev.indexAddr (i:=0) rfl rfl oD oD) (wh 3 rfl e (λ_ f=>Ev.awj (cs:=clx I dy rx ry) rfl rfl rfl (g.q8 f)) ?_)));unfold clx;refine wh 4 rfl e (eM rfl) (wh 5 rfl e (eM rfl) (wh 7 rfl e (eM rfl) (wh 8 rfl e (λ_ _=>Ev.indexAddr (i:=0) rfl rfl oD oD) (wh 9 rfl e (eF rfl) (wh 10 rfl e (eF rfl) (wh 11 rfl e (λ_ f=>Ev.load (v:=.bool I.neg) rfl rfl ((g.q8 f) 0 _ rfl)) ?_))))));refine WH.k7 6 rfl oR hasF237 rfl rfl (dlx I dy rx ry mode _ F D C a3 a2) λv w2 h'=>?_;obtain ⟨r,rfl,d2,hr,hC⟩:=h';have a:=a.ta hC;have e:=e.trans hC;refine ⟨e,?_⟩;refine wh 12 rfl e (eA rfl) (wh 13 rfl e (eA rfl) (wh 14 rfl e (eA rfl) ?_));refine WH.done oR (M _ _ _ ?_);refine O ?_;refine zr ?_;refine k9.ret3 rfl rfl rfl rfl ?_;exact ⟨.inr ⟨F,.inr (.inr ⟨z,I,dy,p,o,.inr ⟨y,r,d2,hr,rfl⟩⟩)⟩,a⟩
theorem ajx(k:Nat)(neg:Bool)(e:Int)(w:World)(m:k<=9218868437227405312):Ret Tryz.prog 186 [.int .u64 (k:Int),.bool neg,.int .i64 e] w λu w'=>u = .tuple [.float .f64 (if neg then k+9223372036854775808 else k),.int .i64 e].toArray/\w=w':=by
 refine zE3 Tryz.func186 rfl ?_;refine Sr λ_ l=>za rfl (za rfl (zz (l (zc λ_ f=>Sr λ_ j=>zm rfl (zz (j ?_))))));refine zy rfl ?_ ?_<;>intro d<;>try simp only[qs] at d
 ·have a:=d
  refine zR λ_ g=>?_;refine zm rfl ?_;refine WL.ev (Ev.iJ (b:=9223372036854775808) rfl rfl oO) rfl ?_;refine za rfl ?_;refine WL.nil (g _ _ _ (f ?_));refine Sr λ_ i=>zm rfl ?_;refine WL.ev (Ev.ext rfl (ext82 _ _)) rfl ?_;refine zm rfl (za rfl (za rfl (zz (i ?_))));refine zr (zr2 rfl rfl rfl ?_);rw[if_pos a];exact ⟨rfl,rfl⟩
 have a:=d;refine zkk (f (Sr λ_ h=>zm rfl ?_));refine WL.ev (Ev.ext rfl (ext82 _ _)) rfl ?_;refine zm rfl (za rfl (za rfl (zz (h ?_))));refine zr (zr2 rfl rfl rfl ?_);rw[if_neg (by rw[a];decide)];exact ⟨rfl,rfl⟩
theorem clj(nn nd:Bool)(Y Z:Value)(D F:List Nat)(B C:Int)(mode:Int)(w:World)(i:NU w Y D)(j:NU w Z F)(T : -9223372036854775808<=B/\B<=9223372036854775807)(U : -9223372036854775808<=C/\C<=9223372036854775807)(Q:D.length<=34359738368)(R:F.length<=34359738368):Ret Tryz.prog 108 [.agg [.bool nn,Y,.int .i64 B,.bool nd,Z,.int .i64 C].toArray,.int .i64 mode] w λu w'=>(∃ bits e,u = .tuple [.float .f64 bits,.int .i64 e].toArray/\bwq nn nd (val D) (val F) B C mode bits e)/\Chg [] w w':=by
 have b:=crf w;have a2:=i.one;have a3:=j.one;refine zE2 Tryz.func108 rfl ?_;refine Sr λ_ J=>?_;refine zBh rfl rfl rfl b λb2 a6 o k a4 x b=>?_;have i:=i.q8 k;have j:=j.q8 k;refine za rfl (za rfl (zz (J (zc λ_ g=>?_))));refine CW.cQ 11 rfl dZ λa7 f a h=>?_;have b:=b.ta h;have o:=o.k0 h;have i:=i.q8 h;have j:=j.q8 h;have n:=o;refine wh 1 rfl a (λ_ M=>Ev.rZ rfl rfl (n.q8 M) rfl) (wh 2 rfl a (eM rfl) ?_);refine WH.k7 0 rfl oR hasF162 rfl rfl (b0x _) λv w1 d=>?_;obtain ⟨rfl,A⟩:=d;have b:=b.ta A;have i:=i.q8 A;have j:=j.q8 A;have a:=a.trans A;refine ⟨a,?_⟩;refine WH.k7 3 rfl oR hasF185 rfl rfl (c3q _ _ _ _ _ _ _ _ mode _ i j T U Q R) λv w2 d=>?_;obtain ⟨hD,l⟩:=d;have b:=b.ta l;have a:=a.trans l;refine ⟨a,?_⟩;rcases hD with ⟨q,rfl⟩|⟨q,⟨p,rfl⟩|⟨p,O,rfl⟩|⟨p,X,dy,z,y,⟨m,rfl⟩|⟨m,r,V,hr,rfl⟩⟩⟩
 ·refine wh 4 rfl a (eM rfl) (wh 5 rfl a (eX rfl rfl) (wh 6 rfl a (eX rfl rfl) (wh 7 rfl a (eX rfl rfl) (wh 8 rfl a (eA rfl) (wh 9 rfl a (eA rfl) (wh 10 rfl a (eA rfl) ?_))))));refine WH.done oR (f _ _ _ ?_);refine g (Sr λ_ I=>zm rfl (zm rfl (zm rfl ?_)));refine WL.call hasF186 rfl rfl (ajx 0 false 1 _ oO) λv w3 d=>?_;obtain ⟨rfl,rfl⟩:=d;refine zx rfl rfl (zx rfl rfl (za rfl (za rfl (zz (I ?_)))));refine zr (zr2 rfl rfl rfl ?_);exact ⟨⟨_,_,rfl,.inl ⟨q,rfl,rfl⟩⟩,b⟩
 ·refine wh 4 rfl a (eM rfl) (wh 5 rfl a (eX rfl rfl) (wh 6 rfl a (eX rfl rfl) (wh 7 rfl a (eX rfl rfl) (wh 8 rfl a (eA rfl) (wh 9 rfl a (eA rfl) (wh 10 rfl a (eA rfl) ?_))))));refine WH.done oR (f _ _ _ ?_);refine g (Sr λ_ H=>zm rfl (zm rfl (zm rfl ?_)));refine WL.call hasF186 rfl rfl (ajx 0 false 1 _ oO) λv w4 d=>?_;obtain ⟨rfl,rfl⟩:=d;refine zx rfl rfl (zx rfl rfl (za rfl (za rfl (zz (H ?_)))));refine zr (zr2 rfl rfl rfl ?_);exact ⟨⟨_,_,rfl,.inr ⟨q,.inl ⟨p,rfl,rfl⟩⟩⟩,b⟩
 ·refine wh 4 rfl a (eM rfl) (wh 5 rfl a (eX rfl rfl) (wh 6 rfl a (eX rfl rfl) (wh 7 rfl a (eX rfl rfl) (wh 8 rfl a (eA rfl) (wh 9 rfl a (eA rfl) (wh 10 rfl a (eA rfl) ?_))))));refine WH.done oR (f _ _ _ ?_);refine g (Sr λ_ G=>zm rfl (zm rfl (zm rfl ?_)));refine WL.call hasF186 rfl rfl (ajx 0 false 2 _ oO) λv w5 d=>?_;obtain ⟨rfl,rfl⟩:=d;refine zx rfl rfl (zx rfl rfl (za rfl (za rfl (zz (G ?_)))));refine zr (zr2 rfl rfl rfl ?_);exact ⟨⟨_,_,rfl,.inr ⟨q,.inr (.inl ⟨p,O,rfl,rfl⟩)⟩⟩,b⟩
 ·refine wh 4 rfl a (eM rfl) (wh 5 rfl a (eX rfl rfl) (wh 6 rfl a (eX rfl rfl) (wh 7 rfl a (eX rfl rfl) (wh 8 rfl a (eA rfl) (wh 9 rfl a (eA rfl) (wh 10 rfl a (eA rfl) ?_))))));refine WH.done oR (f _ _ _ ?_);refine g (Sr λ_ t=>zm rfl (zm rfl (zm rfl ?_)));refine WL.call hasF186 rfl rfl (ajx 0 false 21 _ oO) λv w6 d=>?_;obtain ⟨rfl,rfl⟩:=d;refine zx rfl rfl (zx rfl rfl (za rfl (za rfl (zz (t ?_)))));refine zr (zr2 rfl rfl rfl ?_);exact ⟨⟨_,_,rfl,.inr ⟨q,.inr (.inr ⟨p,X,dy,z,y,.inl ⟨m,rfl,rfl⟩⟩)⟩⟩,b⟩
 refine wh 4 rfl a (eM rfl) (wh 5 rfl a (eX rfl rfl) (wh 6 rfl a (eX rfl rfl) (wh 7 rfl a (eX rfl rfl) (wh 8 rfl a (eA rfl) (wh 9 rfl a (eA rfl) (wh 10 rfl a (eA rfl) ?_))))));refine WH.done oR (f _ _ _ ?_);refine g (Sr λ_ s=>zm rfl (zm rfl (zm rfl ?_)));refine WL.call hasF186 rfl rfl (ajx r X.neg 0 _ oO) λv w7 d=>?_;obtain ⟨rfl,rfl⟩:=d;refine zx rfl rfl (zx rfl rfl (za rfl (za rfl (zz (s ?_)))));refine zr (zr2 rfl rfl rfl ?_);exact ⟨⟨_,_,rfl,.inr ⟨q,.inr (.inr ⟨p,X,dy,z,y,.inr ⟨m,r,V,hr,rfl,rfl⟩⟩)⟩⟩,b⟩
theorem b0j{q t:Bool}{u v:Nat}{B C mode:Int}{b b':Nat}{e e':Int}(h:bwq q t u v B C mode b e)(l:bwq q t u v B C mode b' e'):b=b'/\e=e':=by
  rcases h with ⟨a,i,f⟩|⟨a,h⟩<;>rcases l with ⟨o,g,d⟩|⟨o,l⟩
  · exact ⟨i.trans g.symm,f.trans d.symm⟩
  · exact absurd o a
  · exact absurd a o
  · rcases h with ⟨s,i,f⟩|⟨s,n,i,f⟩|⟨s,x,y,A,w,h⟩<;>rcases l with ⟨p,g,d⟩|⟨p,D,g,d⟩|⟨p,H,G,k,j,l⟩
    · exact ⟨i.trans g.symm,f.trans d.symm⟩
    · omega
    · omega
    · omega
    · exact ⟨i.trans g.symm,f.trans d.symm⟩
    · rcases n with n|n
      · rw[k] at n;cases n
      · rw[j] at n;cases n
    · omega
    · rcases D with n|n
      · rw[A] at n;cases n
      · rw[w] at n;cases n
    · rw[A] at k;cases k
      rw[w] at j;cases j
      rcases h with ⟨z,i,f⟩|⟨z,r,N,_,i,f⟩<;>rcases l with ⟨m,g,d⟩|⟨m,I,F,_,g,d⟩
      · exact ⟨i.trans g.symm,f.trans d.symm⟩
      · exact absurd z m
      · exact absurd m z
      · have:=N.unique (Nat.mul_pos oO (zZ _)) F
        subst this
        exact ⟨i.trans g.symm,f.trans d.symm⟩
end
section
open Go Fl
def Srt(l:List Nat):Prop:=l.Pairwise λa b=>key a<=key b
def Nums(l:List Nat):Prop:=∀ x∈l,x<18446744073709551616/\isNaN x=false
def sortP(l:List Nat):List Nat:=l.mergeSort λa b=>decide (key a<=key b)
end
section
open Go Sx Wd Fl
set_option exponentiation.threshold 9000
end
section
open Go Sx Wd Fl
set_option exponentiation.threshold 9000
theorem fvI_nought{w:Nat}(b:(g6 w).cls<=2)(a:w<18446744073709551616):fvI w=0↔w%9223372036854775808=0:=by
  have f:(0:Nat)<2^1074:=Nat.two_pow_pos _
  have e:=fvI_nz b a
  have d:nz (w%9223372036854775808)*2^1074=0↔w%9223372036854775808=0:=by
    rw[<- nz_zero (k:=w%9223372036854775808)]
    constructor
    · intro q
      rcases Nat.mul_eq_zero.1 q with q|q
      · exact q
      · omega
    · intro q;rw[q,Nat.zero_mul]
  rw[<- d,e]
  split<;>omega
end
section
open Go Sx Wd
set_option exponentiation.threshold 5000
theorem b5x{S:Int}(h:InB S)(f:S≠0): ∃ a:Nat,S.natAbs=(fQ S).m*2^a/\(fQ S).e = -2148+(a:Int)/\(fQ S).neg=decide (S<0):=by
  obtain ⟨-,d⟩:=akj (n:=S.natAbs) oO
  have b:=byx h f
  exact ⟨tz S.natAbs,by rw[b];exact d,by rw[b],by rw[b]⟩
theorem thv_in{x y:Nat}(b:(g6 x).cls<=2)(a:(g6 y).cls<=2):InB (thv (dlj x y)):=by
  have h:=czq b a
  have d:2^4196<16384*BB:=by rw[b4x];exact Nat.pow_lt_pow_right oD oD
  unfold InB
  generalize 16384*BB=M at *
  generalize 2^4196=N at *
  omega
theorem mulD_sum{x y:Nat}(F:(g6 x).cls<=2)(D:(g6 y).cls<=2):gX (fQ (fvI x)) (fQ (fvI y))=some (fQ (thv (dlj x y))):=by
  have g:=daq F D
  have M:=thv_in F D
  have B:=dsq x
  have w:=dsq y
  generalize thv (dlj x y)=Z at *
  generalize fvI x=S at *
  generalize fvI y=T at *
  have i:=a2q B
  have h:=a2q w
  rw[<- cvq i h]
  have G:(2:Nat)^2148≠0:=Nat.ne_of_gt (Nat.two_pow_pos _)
  by_cases h0:S=0
  · subst h0
    have:Z=0:=by
      rw[Int.zero_mul] at g
      rcases Int.mul_eq_zero.1 g with q|q
      · exact q
      · exact absurd (by exact_mod_cast q) G
    subst this
    rw[show (fQ 0).m=0 from rfl,Nat.zero_mul,kX];rfl
  by_cases h1:T=0
  · subst h1
    have:Z=0:=by
      rw[Int.mul_zero] at g
      rcases Int.mul_eq_zero.1 g with q|q
      · exact q
      · exact absurd (by exact_mod_cast q) G
    subst this
    rw[show (fQ 0).m=0 from rfl,Nat.mul_zero,kX];rfl
  obtain ⟨a,U,X,R⟩:=b5x B h0
  obtain ⟨b,Q,V,O⟩:=b5x w h1
  have A:(fQ S).m≠0:=λq=>h0 ((bmq B).1 q)
  have v:(fQ T).m≠0:=λq=>h1 ((bmq w).1 q)
  have p:((fQ S).m*(fQ T).m)%2=1:=by rw[Nat.mul_mod,i.odd A,h.odd v]
  have J:Z≠0:=λq=>by
    rw[q,Int.zero_mul] at g
    rcases Int.mul_eq_zero.1 g.symm with q|q
    · exact h0 q
    · exact h1 q
  have e:Z.natAbs*2^2148=(fQ S).m*(fQ T).m*2^(a+b):=by
    have:=congrArg Int.natAbs g
    rw[Int.natAbs_mul,Int.natAbs_mul,Int.natAbs_natCast] at this
    rw[this,U,Q,Nat.pow_add]
    simp only[Nat.mul_comm,Nat.mul_left_comm,Nat.mul_assoc]
  have l:=tz_scale (m:=Z.natAbs) oO 2148
  rw[e,tz_mul _ _ p] at l
  obtain ⟨k,I⟩ : ∃ k,k=tz Z.natAbs:=⟨_,rfl⟩
  rw[<- I] at l
  have n:Z.natAbs=(fQ S).m*(fQ T).m*2^k:=by
    rw[l,Nat.pow_add,<- Nat.mul_assoc] at e
    exact Nat.eq_of_mul_eq_mul_right (Nat.two_pow_pos _) e
  rw[<- acq (k:=k) (f:=-2148) oO,<- n,R,O]
  refine alx M λ_=>?_
  have s:(Z<0)↔¬(S<0↔T<0):=by
    have o:(0:Int)<((2^2148:Nat):Int):=by exact_mod_cast Nat.two_pow_pos _
    constructor
    · intro C j
      have r:Z*((2^2148:Nat):Int)<0:=Int.mul_neg_of_neg_of_pos C o
      rw[g] at r
      by_cases hsn:S<0
      · have:=Int.mul_pos_of_neg_of_neg hsn (j.1 hsn);omega
      · have:=Int.mul_nonneg (show 0<=S by omega) (show 0<=T by have:=λq=>hsn (j.2 q);omega);omega
    · intro H
      apply Classical.byContradiction
      intro C
      have u:0<=Z*((2^2148:Nat):Int):=Int.mul_nonneg oO oO
      rw[g] at u
      by_cases hsn:S<0
      · have t:0<T:=by
          have : ¬T<0:=λq=>H ⟨λ_=>q,λ_=>hsn⟩
          omega
        have:=Int.mul_neg_of_neg_of_pos hsn t;omega
      · have d:T<0:=Classical.byContradiction λq=>H ⟨λz=>absurd z hsn,λz=>absurd z q⟩
        have:=Int.mul_neg_of_pos_of_neg (show 0<S by omega) d;omega
  by_cases hsn:S<0<;>by_cases d:T<0
  · rw[decide_eq_true hsn,decide_eq_true d,decide_eq_false (λq=>s.1 q ⟨λ_=>d,λ_=>hsn⟩)];rfl
  · rw[decide_eq_true hsn,decide_eq_false d,decide_eq_true (s.2 λq=>d (q.1 hsn))];rfl
  · rw[decide_eq_false hsn,decide_eq_true d,decide_eq_true (s.2 λq=>hsn (q.2 d))];rfl
  · rw[decide_eq_false hsn,decide_eq_false d,decide_eq_false (λq=>s.1 q ⟨λz=>absurd z hsn,λz=>absurd z d⟩)];rfl
end
section
open Go Sx Wd
set_option exponentiation.threshold 9000
theorem mulD_int{S:Int}{n:Nat}(h:InB S)(o:n≠0)(e:n<18446744073709551616)(p:InB (S*(n:Int))):gX (fQ S) (cJ (n:Int))=some (fQ (S*(n:Int))):=by
  have d:=a2q h
  have b:=xZ (n:=(n:Int)) oO
  rw[<- cvq d b]
  obtain ⟨t,j,g,i⟩:=cvj o e
  by_cases h0:S=0
  · subst h0
    rw[show (fQ 0).m=0 from rfl,Nat.zero_mul,kX,Int.zero_mul];rfl
  · obtain ⟨a,s,v,r⟩:=b5x h h0
    have u:S*(n:Int)≠0:=by
      intro q
      rcases Int.mul_eq_zero.1 q with q|q
      · exact h0 q
      · omega
    have l:(S*(n:Int)).natAbs=(fQ S).m*(cJ (n:Int)).m*2^(a+t):=by
      rw[Int.natAbs_mul,Int.natAbs_natCast,s,Nat.pow_add]
      calc (fQ S).m*2^a*n=(fQ S).m*2^a*((cJ (n:Int)).m*2^t):=by rw[<- j]
        _=_:=by simp only[Nat.mul_comm,Nat.mul_left_comm,Nat.mul_assoc]
    rw[<- acq (k:=a+t) (f:=-2148) oO,<- l,r,i]
    refine alx p λ_=>?_
    have:(S*(n:Int)<0)↔S<0:=by
      constructor
      · intro q
        apply Int.lt_of_not_ge;intro g
        have:=Int.mul_nonneg g (show (0:Int)<=n by omega)
        omega
      · intro q;exact Int.mul_neg_of_neg_of_pos q oO
    rw[Bool.bne_false]
    exact decide_eq_decide.2 this.symm
theorem splitP_exp{x:Nat}(h:(g6 x).cls=1\/(g6 x).cls=2): -1074<=(g6 x).exp:=by
  unfold g6 at h ⊢
  by_cases a:x/4503599627370496%2048=2047/\x%4503599627370496≠0
  · rw[if_pos a] at h;simp at h
  · rw[if_neg a] at h ⊢
    by_cases b:x/4503599627370496%2048=2047
    · rw[if_pos b] at h;simp at h
    · rw[if_neg b] at h ⊢
      by_cases d:0<x/4503599627370496%2048
      · rw[if_pos d] at h ⊢;dsimp only;omega
      · rw[if_neg d] at h ⊢
        by_cases f:0<x%4503599627370496
        · rw[if_pos f];simp
        · rw[if_neg f];simp
theorem fin_form{x:Nat}(h:(g6 x).cls=1\/(g6 x).cls=2):cX (g6 x).neg (g6 x).frac (g6 x).exp=some (fQ (fvI x)):=by
  have d:=splitP_exp h
  rw[<- acq (k:=((g6 x).exp+2148).toNat) (f:=-2148) oO]
  have b:fvN x=(g6 x).frac*2^((g6 x).exp+2148).toNat:=by unfold fvN;rw[if_pos h]
  rw[<- b,<- dgj]
  refine alx (dsq x) λa=>?_
  unfold fvI at a ⊢
  cases hg:(g6 x).neg
  · rw[if_neg oD];exact (decide_eq_false oO).symm
  · rw[hg,if_pos rfl] at a
    rw[if_pos rfl];exact (decide_eq_true oO).symm
theorem bl_sgn{x y:Nat}: (bl x<bl y->sgn x y = -1)/\(bl y<bl x->sgn x y=1):=by
  constructor
  · intro h
    have d:=cbj x
    have b:=cbx.1 (show bl y-1<bl y by omega)
    have a:=Nat.pow_le_pow_right (n:=2) oD (show bl x<=bl y-1 by omega)
    unfold sgn;rw[if_pos oO]
  · intro h
    have d:=cbj y
    have b:=cbx.1 (show bl x-1<bl x by omega)
    have a:=Nat.pow_le_pow_right (n:=2) oD (show bl y<=bl x-1 by omega)
    unfold sgn;rw[if_neg oO,if_pos oO]
theorem sgn_swap(a b:Nat): -sgn a b=sgn b a:=by
  unfold sgn
  split<;>split<;>(try split)<;>omega
def bvx(m:Nat)(e:Int)(n:Nat)(f:Int):Int:=sgn (m*2^(e-min e f).toNat) (n*2^(f-min e f).toNat)
theorem cmpV_swap(m:Nat)(e:Int)(n:Nat)(f:Int): -bvx m e n f=bvx n f m e:=by
  unfold bvx
  rw[sgn_swap,Int.min_comm]
def bqq(na:Bool)(m:Nat)(e:Int)(nb:Bool)(n:Nat)(f:Int):Int:=
  if sgD na m<sgD nb n then -1 else if sgD nb n<sgD na m then 1 else if sgD na m=0 then 0 else sgD na m*bvx m e n f
theorem cmpV_sum{S T:Int}(l:InB S)(hT:InB T)(o:S≠0)(n:T≠0):bvx (fQ S).m (fQ S).e (fQ T).m (fQ T).e=sgn S.natAbs T.natAbs:=by
  obtain ⟨a,s,v,_⟩:=b5x l o
  obtain ⟨b,r,u,_⟩:=b5x hT n
  unfold bvx
  obtain ⟨c,t⟩ : ∃ c,c=min a b:=⟨_,rfl⟩
  have k:min (fQ S).e (fQ T).e = -2148+(c:Int):=by omega
  rw[k,show ((fQ S).e-(-2148+(c:Int))).toNat=a-c by omega,show ((fQ T).e-(-2148+(c:Int))).toNat=b-c by omega]
  have j:S.natAbs=(fQ S).m*2^(a-c)*2^c:=by rw[Nat.mul_assoc,<- Nat.pow_add,show a-c+c=a by omega];exact s
  have i:T.natAbs=(fQ T).m*2^(b-c)*2^c:=by rw[Nat.mul_assoc,<- Nat.pow_add,show b-c+c=b by omega];exact r
  rw[j,i]
  generalize (fQ S).m*2^(a-c)=p
  generalize (fQ T).m*2^(b-c)=q
  have d:=Nat.two_pow_pos c
  unfold sgn
  have g:p*2^c<q*2^c↔p<q:=⟨λh=>Nat.lt_of_mul_lt_mul_right h,λh=>Nat.mul_lt_mul_of_pos_right h d⟩
  have f:q*2^c<p*2^c↔q<p:=⟨λh=>Nat.lt_of_mul_lt_mul_right h,λh=>Nat.mul_lt_mul_of_pos_right h d⟩
  simp only[g,f]
theorem cmpD_sum{S T:Int}(a:InB S)(hT:InB T):bqq (fQ S).neg (fQ S).m (fQ S).e (fQ T).neg (fQ T).m (fQ T).e=if S<T then -1 else if T<S then 1 else 0:=by
  have s1:=sumD_sg a.1 a.2
  have s2:=sumD_sg hT.1 hT.2
  unfold bqq
  rw[s1,s2]
  by_cases h0:S=0
  · subst h0
    by_cases h1:T=0
    · subst h1;rfl
    · by_cases h2:T<0
      · simp[h2];omega
      · simp[h1,h2];omega
  · by_cases h1:T=0
    · subst h1
      by_cases h2:S<0
      · simp[h2]
      · simp[h0,h2];omega
    · have b:=cmpV_sum a hT h0 h1
      rw[b]
      unfold sgn
      by_cases h2:S<0<;>by_cases h3:T<0
      · simp only[h2,h3,if_true]
        simp only[show ¬((-1:Int) < -1) by omega,show ¬((-1:Int)=0) by omega,if_false]
        by_cases q1:S<T
        · rw[if_pos q1,if_neg oO,if_pos oO];decide
        · rw[if_neg q1]
          by_cases q2:T<S
          · rw[if_pos q2,if_pos oO];decide
          · rw[if_neg q2,if_neg oO,if_neg oO];decide
      · simp only[h2,h3,h1,if_true,if_false]
        rw[if_pos oD,if_pos oO]
      · simp only[h2,h3,h0,if_true,if_false]
        rw[if_neg oD,if_pos oD,if_neg oO,if_pos oO]
      · simp only[h2,h3,h0,h1,if_false]
        simp only[show ¬((1:Int)<1) by omega,show ¬((1:Int)=0) by omega,if_false]
        by_cases q1:S<T
        · rw[if_pos q1,if_pos oO];decide
        · rw[if_neg q1]
          by_cases q2:T<S
          · rw[if_pos q2,if_neg oO,if_pos oO];decide
          · rw[if_neg q2,if_neg oO,if_neg oO];decide
end
section
open Go Sx Wd Fl
set_option exponentiation.threshold 9000
def askQ(num den rule mode:Int):Prop:=(0<=mode/\mode<=4)/\(0<=rule/\rule<=4)/\(1<=den/\den<=2147483648)/\0<=num/\num<=den
instance (num den rule mode:Int):Decidable (askQ num den rule mode):=by unfold askQ;exact inferInstance
def partQ(parts rule mode:Int):Prop:=(0<=mode/\mode<=4)/\(0<=rule/\rule<=4)/\1<=parts/\parts<=65536
instance (parts rule mode:Int):Decidable (partQ parts rule mode):=by unfold partQ;exact inferInstance
end
section
open Go Sx Wd Fl
set_option exponentiation.threshold 9000
structure Row(s:List Nat):Prop where
  srt:Srt s
  fin:finL s
  w : ∀ x∈s,x<18446744073709551616
  pos:0<s.length
end
section
open Go Sx Wd Fl
set_option exponentiation.threshold 9000
end
section
open Go Sx Wd Fl
set_option exponentiation.threshold 9000
end
section
open Go Sx Wd
set_option exponentiation.threshold 9000
end
section
open Go Sx Wd Fl
set_option exponentiation.threshold 9000
end
section
open Go Sx Wd Fl
section
variable {P:Program} {s:Sl} {w:World} {ty:TypeId} {x y:Operand} {t t':TypeId} {a b:Nat}
end
end
section
open Go Sx Wd
section
variable {P:Program} {n:Nat} {D:List Deferred} {s:Sl} {w:World} {ops:Array Oper} {K:KK} {rest:List Oper} {ty:TypeId} {pos:String} {af:Array Edge} {d:Nat} {x y:Operand}
theorem Sx.CW.seqMD{A:AQ}{x y:Code}(c:Nat)(b:Bool)(d:CW P x (cjx (λD' s' w'=>D'=D/\w'=w.drew/\j0 ((c,.bool b)::s) s') A) n D s w)(a:Chg [] w w.drew->CW P y A n D ((c,.bool b)::s) w.drew):CW P (.seq x y) A n D s w:=
  CW.anj _ d λD' s' w' ⟨h1,h2,h3⟩=>by subst h1;subst h2;exact (a (Chg.drew _ _)).sub h3
end
end
section
open Go Sx Wd Fl
def i64v(z:Int):Value:=.int .i64 z
theorem GR.rw_{w:World}{e:TypeId}{f:Nat->Value}{lo:Nat}{X:List Nat}{a:Option Addr}{m c:Nat}{l:List Nat}(h:GR w e f lo X (.slice a m c) l):RW w a (l.map f)/\m=l.length/\l.length<=c:=by
  obtain ⟨j,i,g,d,b⟩:=h.row
  cases g
  exact ⟨b,rfl,d⟩
namespace Sx
section
variable {P:Program} {A:AQ} {n:Nat} {D:List Deferred} {s:Sl} {w:World} {ops:Array Oper} {K:KK} {S:World->Prop} {fuel:Nat} {listed:Array Bool}
variable {op:Op} {ty:TypeId} {pos:String} {af:Array Edge} {d:Nat} {v:Value} {x y:Operand}
theorem dux{t e H:Nat}{Y:TypeDesc}{ze:Value}{I C:Nat}{z:Value}{v:Value}{f:Nat->Value}{lo:Nat}{X:List Nat}{l news:List Nat}{a:Option Addr}{mm c:Nat}[hT:aJ P t (.slice e) I C z][hE:aJ P e Y 1 H ze]
    (n:ze.cells.size=1) (V : ∀ i,(f i).oneCell'=true) (F:k6 s x=some v) (D:k6 s y=some (.slice a mm c)) (k:GR w e f lo X v l) (h:mm=news.length) (G:RW w a (news.map f)) (A:lo<=w.heap.size) (T : ∀ b∈X,b<w.heap.size)
    (d:(l.length+news.length)*H<=140737488355328) (U:l.length+news.length<=70368744177664) :
    ∃ v' w',Ev P s (.call ⟨.builtin .append,[x,y].toArray,#[t,t]⟩) ty w v' w'/\GR w' e f lo X v' (l++news)/\Chg v.ownBlock.toList w w':=by
  cases a with
  | some ad=>
    obtain ⟨v',w',Q,J,R,O⟩:=ev_append (P:=P) (s:=s) (w:=w) (ty:=ty) (x:=x) (y:=y) (t:=t) (hT:=hT) (hE:=hE) (news:=news.map f) n oO F D k.1 oT (λj u o=>by
      obtain ⟨Z,B,g⟩:=G j u o
      cases B;exact g) (λu o=>by
      obtain ⟨i,_,rfl⟩:=List.mem_map.1 o
      exact V i) (by unfold maxLen;omega) (by rw[h];exact d)
    refine ⟨v',w',Q,⟨by rw[List.length_append,List.map_append,<- h];exact J,λb m=>?_⟩,R⟩
    rcases O with q|q
    · rw[q] at m;exact k.2 b m
    · rw[q] at m;cases m;exact ⟨A,λh=>Nat.lt_irrefl _ (T _ h)⟩
  | none=>
    have M:news=[]:=by
      cases news with
      | nil=>rfl
      | cons u r=>obtain ⟨ad,B,_⟩:=G 0 (f u) rfl;cases B
    subst M
    have p:mm=0:=h
    subst p
    exact ⟨v,w,Ev.append00 F D k.1,by rw[List.append_nil];exact k,Chg.refl _ _⟩
end
end Sx
end
namespace Sx
open Go
structure ME where
  key:Int
  val:Value
  born:Nat
def meV(kk:IntKind)(e:ME):MapEntry:=⟨.int kk e.key,e.val,e.born⟩
def mapO(kk:IntKind)(es:List ME)(c:Nat):Obj:=.map (es.map (meV kk)).toArray c
section
variable {P:Program} {t key elem:TypeId} {kk:IntKind} {w:World} {sk bk:Nat} {zk:Value}
end
section
variable {P:Program} {n:Nat} {D:List Deferred} {s:Sl} {w:World} {ty:TypeId} {x y z:Operand} {ops:Array Oper} {K:KK} {rest:List Oper} {pos:String} {af:Array Edge} {d:Nat}
variable {t key elem:TypeId} {kk:IntKind} {sz by_ sk bk se be:Nat} {zt zk ze:Value} {de:TypeDesc} {r c:Nat} {es:List ME} {k:Int}
end
end Sx
section
open Go Sx Fl
theorem andNot_top(b:Nat)(h:9223372036854775808<=b)(g:b<18446744073709551616):aiq .andNot .u64 (b:Int) 9223372036854775808=(b:Int)-9223372036854775808:=by
  have e:(BitVec.ofInt 64 (b:Int)&&& ~~~BitVec.ofInt 64 9223372036854775808).toNat=b-9223372036854775808:=by
    rw[BitVec.toNat_and,BitVec.toNat_not]
    have f:(BitVec.ofInt 64 (b:Int)).toNat=b:=by simp[BitVec.toNat_ofInt];omega
    have d:(BitVec.ofInt 64 9223372036854775808).toNat=9223372036854775808:=by decide
    rw[f,d]
    have a:b&&& (2^64-1-9223372036854775808)=b%2^63:=by
      rw[<- Nat.and_two_pow_sub_one_eq_mod]
    rw[a]
    omega
  show IntKind.u64.wrap ((BitVec.ofInt 64 (b:Int)&&& ~~~BitVec.ofInt 64 9223372036854775808).toNat:Int)=_
  rw[e,IntWalk.u64_in _ oO]
  omega
theorem compl_i64(n:Int)(f:0<=n)(d:n<=9223372036854775807):aiq .xor .i64 (-1) n = -1-n:=by
  have e:(BitVec.ofInt 64 (-1) ^^^ BitVec.ofInt 64 n).toNat=18446744073709551615-n.toNat:=by
    have a:BitVec.ofInt 64 (-1)=BitVec.allOnes 64:=by decide
    rw[a,BitVec.allOnes_xor,BitVec.toNat_not]
    have b:(BitVec.ofInt 64 n).toNat=n.toNat:=by simp[BitVec.toNat_ofInt];omega
    rw[b]
  show IntKind.i64.wrap ((BitVec.ofInt 64 (-1) ^^^ BitVec.ofInt 64 n).toNat:Int)=_
  rw[e,IntKind.wrap_i64]
  omega
theorem shr63(b:Nat)(a:b<18446744073709551616):(b:Int).fdiv (2^(min (63:Int).toNat IntKind.u64.bits))=if 9223372036854775808<=b then 1 else 0:=by
  show (b:Int).fdiv 9223372036854775808=_
  rw[Int.fdiv_eq_ediv_of_nonneg _ oO]
  split<;>omega
theorem key_neg(b:Nat)(d:b<18446744073709551616)(f:isNaN b=false)(a:(b:Int).fdiv (2^(min (63:Int).toNat IntKind.u64.bits))=1):
    aiq .xor .i64 (if IntKind.i64.signed then -1 else IntKind.i64.max) (IntKind.i64.wrap (aiq .andNot .u64 (b:Int) 9223372036854775808))=key b:=by
  rw[shr63 b d] at a
  have e:9223372036854775808<=b:=by
    by_cases h:9223372036854775808<=b
    · exact h
    · rw[if_neg h] at a;cases a
  rw[key_neg_eq f e,andNot_top b e d,wrap_i64 oO]
  exact compl_i64 _ oO oO
theorem key_pos(b:Nat)(d:b<18446744073709551616)(f:isNaN b=false)(a : ¬(b:Int).fdiv (2^(min (63:Int).toNat IntKind.u64.bits))=1):IntKind.i64.wrap (b:Int)=key b:=by
  rw[shr63 b d] at a
  have e:b<9223372036854775808:=by
    by_cases h:9223372036854775808<=b
    · rw[if_pos h] at a;exact absurd rfl a
    · omega
  rw[key_pos_eq f e,wrap_i64 oO]
theorem canon_lt'{b:Nat}(h:b<18446744073709551616):(canon b:Int)<18446744073709551616:=by
  have:=canon_lt h;omega
theorem place_neg(b:Nat)(a:b<18446744073709551616)(h:9223372036854775808<=((canon b:Nat):Int)):IntKind.i64.wrap (-1-IntKind.i64.wrap (IntKind.u64.wrap ((canon b:Nat)-9223372036854775808)))=place b:=by
  have:=canon_lt' a
  rw[IntWalk.u64_in _ oO,wrap_i64 (n:=(canon b:Int)-9223372036854775808) oO,wrap_i64 oO,place,if_pos oO]
theorem place_pos(b:Nat)(a:b<18446744073709551616)(h:((canon b:Nat):Int)<9223372036854775808):IntKind.i64.wrap ((canon b:Nat):Int)=place b:=by
  rw[wrap_i64 oO,place,if_neg oO]
theorem bwx(b:Nat)(w:World):Ret Tryz.prog 151 [.float .f64 b] w λv w'=>v = .bool (isNaN b)/\w=w':=by
 refine Ret.enter Tryz.func151 rfl rfl ?_;refine Sr λ_ d=>za rfl (zz (d (Sr λ_ a=>zm rfl (zm rfl ?_))));refine WL.ev (Ev.fneq rfl rfl) rfl ?_;refine za rfl (zz (a ?_));refine zr (zr1 rfl rfl ?_);exact ⟨by rw[btj],rfl⟩
theorem ccq(w:World):Ret Tryz.prog 77 [] w λv w'=>v = .float .f64 9221120237041090560/\w=w':=by
 refine Ret.enter Tryz.func77 rfl rfl ?_;refine Sr λ_ b=>za rfl (zz (b (Sr λ_ a=>?_)));refine WL.ev (Ev.ext rfl (ext82 _ _)) rfl ?_;refine za rfl (zz (a ?_));refine zr (zr1 rfl rfl ?_);exact ⟨rfl,rfl⟩
theorem ccx(b:Nat)(n:b<18446744073709551616)(w:World):Ret Tryz.prog 166 [.float .f64 b] w λv w'=>v = .int .i64 (key b)/\w=w':=by
 refine Ret.enter Tryz.func166 rfl rfl ?_;refine Sr λ_ m=>za rfl (zz (m (zc λ_ l=>Sr λ_ k=>zm rfl (zm rfl ?_))));refine WL.ev (Ev.fneq rfl rfl) rfl ?_;refine zz (k ?_);refine zy rfl (λa=>?_) λa=>?_
 ·rw[btj] at a;refine Sr λ_ j=>za rfl (zz (j ?_));refine zr (zr1 rfl rfl ?_);exact ⟨by simp[key,a],rfl⟩
 rw[btj] at a;refine zkk (l (Sr λ_ i=>zm rfl ?_));refine WL.ev (Ev.ext rfl (ext48 _ _)) rfl ?_;refine za rfl (zz (i (zc λ_ h=>Sr λ_ g=>zm rfl ?_)));refine WL.ev (Ev.shr rfl rfl oO) rfl ?_;refine zq rfl rfl (zz (g ?_));refine zy rfl (λd=>?_) λd=>?_
 ·simp only[decide_eq_true_eq,decide_eq_false_iff_not] at d;refine Sr λ_ f=>zm rfl ?_;refine WL.ev (Ev.andNot rfl rfl) rfl ?_;refine WL.ev (Ev.conv rfl rfl) rfl ?_;refine WL.ev (Ev.compl rfl) rfl ?_;refine za rfl (zz (f ?_));refine zr (zr1 rfl rfl ?_);exact ⟨by rw[key_neg b n a d],rfl⟩
 simp only[decide_eq_true_eq,decide_eq_false_iff_not] at d;refine zkk (h (Sr λ_ e=>zm rfl ?_));refine WL.ev (Ev.conv rfl rfl) rfl ?_;refine za rfl (zz (e ?_));refine zr (zr1 rfl rfl ?_);exact ⟨by rw[key_pos b n a d],rfl⟩
theorem afj(a b:Nat)(p:a<18446744073709551616)(o:b<18446744073709551616)(w:World):Ret Tryz.prog 97 [.float .f64 a,.float .f64 b] w λv w'=>v = .int .i64 (c4x (key a) (key b))/\w=w':=by
 refine Ret.enter Tryz.func97 rfl rfl ?_;refine Sr λ_ n=>za rfl (zz (n (Sr λ_ m=>zm rfl ?_)));refine WL.call hasF166 rfl rfl (ccx _ p _) λv r h=>?_;obtain ⟨rfl,rfl⟩:=h;refine zm rfl ?_;refine WL.call hasF166 rfl rfl (ccx _ o _) λv q h=>?_;obtain ⟨rfl,rfl⟩:=h;refine za rfl (za rfl (zz (m (zc λ_ l=>CW.block (Sr λ_ k=>zm rfl (zm rfl (zL rfl rfl (za rfl (zz (k ?_))))))))));refine zy rfl (λe=>?_) λe=>?_
 ·simp only[decide_eq_true_eq,decide_eq_false_iff_not,Decidable.not_not,Bool.and_eq_true,Bool.or_eq_true,Bool.not_eq_true',ne_eq,Int.not_lt,Int.not_le] at e;refine Sr λ_ j=>za rfl (zz (j ?_));refine zr (zr1 rfl rfl ?_);exact ⟨by rw[c4x,if_pos e],rfl⟩
 simp only[decide_eq_true_eq,decide_eq_false_iff_not,Decidable.not_not,Bool.and_eq_true,Bool.or_eq_true,Bool.not_eq_true',ne_eq,Int.not_lt,Int.not_le] at e;refine Sr λ_ i=>zm rfl (zm rfl (zG rfl rfl (za rfl (zz (i ?_)))));refine zy rfl (λd=>?_) λd=>?_
 ·simp only[decide_eq_true_eq,decide_eq_false_iff_not,Decidable.not_not,Bool.and_eq_true,Bool.or_eq_true,Bool.not_eq_true',ne_eq,Int.not_lt,Int.not_le] at d;refine Sr λ_ g=>za rfl (zz (g ?_));refine zr (zr1 rfl rfl ?_);exact ⟨by rw[c4x,if_neg oO,if_pos d],rfl⟩
 simp only[decide_eq_true_eq,decide_eq_false_iff_not,Decidable.not_not,Bool.and_eq_true,Bool.or_eq_true,Bool.not_eq_true',ne_eq,Int.not_lt,Int.not_le] at d;refine zkk (l (Sr λ_ f=>za rfl (zz (f ?_))));refine zr (zr1 rfl rfl ?_);exact ⟨by rw[c4x,if_neg oO,if_neg oO],rfl⟩
theorem yX(b:Nat)(j:b<18446744073709551616)(w:World):Ret Tryz.prog 191 [.float .f64 b] w λv w'=>v = .int .u64 (canon b:Nat)/\w=w':=by
 refine Ret.enter Tryz.func191 rfl rfl ?_;refine Sr λ_ i=>za rfl (zz (i (Sr λ_ h=>zm rfl ?_)));refine WL.ev (Ev.ext rfl (ext48 _ _)) rfl ?_;refine za rfl (zz (h (zc λ_ g=>Sr λ_ f=>zm rfl ?_)))
 first|refine WL.ev (Ev.dhq rfl rfl oO oO) rfl ?_|refine WL.ev (Ev.rem rfl rfl oO) rfl ?_
 refine zG rfl rfl (zz (f ?_));refine zy rfl (λa=>?_) λa=>?_
 ·simp only[decide_eq_true_eq,decide_eq_false_iff_not,Decidable.not_not,Bool.and_eq_true,Bool.or_eq_true,Bool.not_eq_true',ne_eq,Int.not_lt,Int.not_le] at a;refine Sr λ_ e=>za rfl (zz (e ?_));refine zr (zr1 rfl rfl ?_);exact ⟨by rw[canon,if_pos (by simp only[isNaN,decide_eq_true_eq];omega)];rfl,rfl⟩
 simp only[decide_eq_true_eq,decide_eq_false_iff_not,Decidable.not_not,Bool.and_eq_true,Bool.or_eq_true,Bool.not_eq_true',ne_eq,Int.not_lt,Int.not_le] at a;refine zkk (g (Sr λ_ d=>zm rfl (za rfl (zz (d ?_)))));refine zr (zr1 rfl rfl ?_);exact ⟨by rw[canon,if_neg (by simp only[isNaN,decide_eq_true_eq];omega)],rfl⟩
theorem amq(b:Nat)(k:b<18446744073709551616)(w:World):Ret Tryz.prog 171 [.float .f64 b] w λv w'=>v = .int .i64 (place b)/\w=w':=by
 refine Ret.enter Tryz.func171 rfl rfl ?_;refine Sr λ_ j=>za rfl (zz (j (Sr λ_ i=>zm rfl ?_)));refine WL.call hasF191 rfl rfl (yX _ k _) λv l h=>?_;obtain ⟨rfl,rfl⟩:=h;refine za rfl (zz (i (zc λ_ g=>Sr λ_ f=>zm rfl ?_)));refine WL.ev (Ev.geq rfl rfl) rfl ?_;refine zz (f ?_);refine zy rfl (λa=>?_) λa=>?_
 ·simp only[decide_eq_true_eq,decide_eq_false_iff_not,Decidable.not_not,Bool.and_eq_true,Bool.or_eq_true,Bool.not_eq_true',ne_eq,Int.not_lt,Int.not_le] at a;refine Sr λ_ e=>zm rfl ?_;refine WL.ev (Ev.sub rfl rfl) rfl ?_;refine WL.ev (Ev.conv rfl rfl) rfl ?_
  first|refine WL.ev (Ev.dX rfl rfl oO) rfl ?_|refine WL.ev (Ev.sub rfl rfl) rfl ?_
  refine za rfl (zz (e ?_));refine zr (zr1 rfl rfl ?_);exact ⟨by rw[place_neg b k a],rfl⟩
 simp only[decide_eq_true_eq,decide_eq_false_iff_not,Decidable.not_not,Bool.and_eq_true,Bool.or_eq_true,Bool.not_eq_true',ne_eq,Int.not_lt,Int.not_le] at a;refine zkk (g (Sr λ_ d=>zm rfl ?_));refine WL.ev (Ev.conv rfl rfl) rfl ?_;refine za rfl (zz (d ?_));refine zr (zr1 rfl rfl ?_);exact ⟨by rw[place_pos b k a],rfl⟩
theorem lQ(a b:Nat)(r:a<18446744073709551616)(q:b<18446744073709551616)(w:World):Ret Tryz.prog 99 [.float .f64 a,.float .f64 b] w λv w'=>v = .int .i64 (c4x (place a) (place b))/\w=w':=by
 refine Ret.enter Tryz.func99 rfl rfl ?_;refine Sr λ_ p=>za rfl (zz (p (Sr λ_ o=>zm rfl ?_)));refine WL.call hasF171 rfl rfl (amq _ r _) λv t h=>?_;obtain ⟨rfl,rfl⟩:=h;refine za rfl (zz (o (Sr λ_ n=>zm rfl ?_)));refine WL.call hasF171 rfl rfl (amq _ q _) λv s h=>?_;obtain ⟨rfl,rfl⟩:=h;refine za rfl (zz (n (zc λ_ m=>Sr λ_ l=>zm rfl (zm rfl (zL rfl rfl (zz (l ?_)))))));refine zy rfl (λe=>?_) λe=>?_
 ·simp only[decide_eq_true_eq,decide_eq_false_iff_not,Decidable.not_not,Bool.and_eq_true,Bool.or_eq_true,Bool.not_eq_true',ne_eq,Int.not_lt,Int.not_le] at e;refine Sr λ_ k=>za rfl (zz (k ?_));refine zr (zr1 rfl rfl ?_);exact ⟨by rw[c4x,if_pos e],rfl⟩
 simp only[decide_eq_true_eq,decide_eq_false_iff_not,Decidable.not_not,Bool.and_eq_true,Bool.or_eq_true,Bool.not_eq_true',ne_eq,Int.not_lt,Int.not_le] at e;refine zkk (m (zc λ_ j=>Sr λ_ i=>zm rfl (zm rfl (zG rfl rfl (zz (i ?_))))));refine zy rfl (λd=>?_) λd=>?_
 ·simp only[decide_eq_true_eq,decide_eq_false_iff_not,Decidable.not_not,Bool.and_eq_true,Bool.or_eq_true,Bool.not_eq_true',ne_eq,Int.not_lt,Int.not_le] at d;refine Sr λ_ g=>za rfl (zz (g ?_));refine zr (zr1 rfl rfl ?_);exact ⟨by rw[c4x,if_neg oO,if_pos d],rfl⟩
 simp only[decide_eq_true_eq,decide_eq_false_iff_not,Decidable.not_not,Bool.and_eq_true,Bool.or_eq_true,Bool.not_eq_true',ne_eq,Int.not_lt,Int.not_le] at d;refine zkk (j (Sr λ_ f=>za rfl (zz (f ?_))));refine zr (zr1 rfl rfl ?_);exact ⟨by rw[c4x,if_neg oO,if_neg oO],rfl⟩
theorem avq(b:Int)(w:World):Ret Tryz.prog 90 [.int .u64 b] w λv w'=>v = .float .f64 b.toNat/\w=w':=by
 refine Ret.enter Tryz.func90 rfl rfl ?_;refine Sr λ_ d=>za rfl (zz (d (Sr λ_ a=>zm rfl ?_)));refine WL.ev (Ev.ext rfl (ext82 _ _)) rfl ?_;refine za rfl (zz (a ?_));refine zr (zr1 rfl rfl ?_);exact ⟨rfl,rfl⟩
theorem kJ(a b:Nat)(w:World):Ret Tryz.prog 41 [.float .f64 a,.float .f64 b] w λv w'=>v = .bool (decide (a=b))/\w=w':=by
 refine Ret.enter Tryz.func41 rfl rfl ?_;refine Sr λ_ e=>za rfl (zz (e (Sr λ_ d=>zm rfl ?_)));refine WL.ev (Ev.ext rfl (ext48 _ _)) rfl ?_;refine zm rfl ?_;refine WL.ev (Ev.ext rfl (ext48 _ _)) rfl ?_;refine zq rfl rfl (za rfl (zz (d ?_)));refine zr (zr1 rfl rfl ?_);exact ⟨by congr 1;rw[decide_eq_decide];omega,rfl⟩
end
section
open Go Sx Wd Fl
theorem RW.one_f{w:World}{b n:Nat}{E:TypeId}{f:Nat->Value}{v:Value}(h:w.heap[b]?=some (.cells [v].toArray E (0,0)))(a:f n=v):RW w (some ⟨b,0,none⟩) ([n].map f):=by
  have d:[n].map f=[v]:=by rw[List.map_cons,List.map_nil,a]
  rw[d];exact RW.of_heap h
namespace Sx
section
variable {P:Program} {A:AQ} {n:Nat} {D:List Deferred} {s:Sl} {w:World} {ops:Array Oper} {K:KK} {S:World->Prop} {z fuel:Nat} {listed:Array Bool}
variable {op:Op} {ty:TypeId} {pos:String} {af:Array Edge} {d:Nat} {v:Value} {x y:Operand}
theorem CW.regionKT{b:Nat}{l:List Oper}(a:List Nat)(z m:Nat)(d:l.length=m)(e:P.follows .mixedOrders=true)
    (h : ∀ R:KK,(∀ D s w,A .normal D s w->R D s w)->Chg a w.drew w.drew->Chg [] w w.drew->WK P l.toArray R (Chg a w.drew) z m (Array.replicate m false) n D s w.drew):CW P (.region b l.toArray true) A n D s w:=
  CW.regionK (Chg a w.drew) z m d e λR hR=>h R hR (Chg.refl _ _) (Chg.drew _ _)
theorem WK.growL(i:Nat){t e A:Nat}{U:TypeDesc}{ze:Value}{C r:Nat}{B:Value}{v:Value}{f:Nat->Value}{lo:Nat}{X:List Nat}{l news:List Nat}{a:Option Addr}{mm c:Nat}[hT:aJ P t (.slice e) C r B][hE:aJ P e U 1 A ze]
    (J:ops[i]?=some ⟨some d,.call ⟨.builtin .append,[x,y].toArray,#[t,t]⟩,ty,pos,af,none⟩) (H:Region.ready .any ops listed=[i])
    (h:ze.cells.size=1) (T : ∀ i,(f i).oneCell'=true) (G:k6 s x=some v) (F:k6 s y=some (.slice a mm c)) (M:GR w e f lo X v l) (I:mm=news.length) (j:RW w a (news.map f)) (m:lo<=w.heap.size) (R : ∀ b∈X,b<w.heap.size)
    (g:(l.length+news.length)*A<=140737488355328) (q:l.length+news.length<=70368744177664) (Q:Nat.blt d n=true)
    (p : ∀ w',Chg v.ownBlock.toList w w'->(listed.setIfInBounds i true).getD z false=false->S w')
    (k : ∀ v' w',GR w' e f lo X v' (l++news)->Chg v.ownBlock.toList w w'->WK P ops K S z fuel (listed.setIfInBounds i true) n D ((d,v')::s) w'):WK P ops K S z (fuel+1) listed n D s w:=by
  obtain ⟨v',w',O,o,u⟩:=dux (P:=P) (s:=s) (ty:=ty) (t:=t) (hT:=hT) (hE:=hE) h T G F M I j m R g q
  exact WK.one i J H O (p w' u) Q (k v' w' o u)
theorem WK.bhj(i:Nat){f:World}{g:List Nat}{t e:TypeId}{F:TypeDesc}{q j a G:Nat}{p ze:Value}{l:List (Nat×Operand)}{vs:List (Nat×Value)}{cs:List Value}{m:Nat}[hT:aJ P t (.slice e) q j p][hE:aJ P e F a G ze]
    (y:ops[i]?=some ⟨some d,.buildSlice t m l.toArray,ty,pos,af,none⟩) (u:Region.ready .any ops listed=[i]) (o:Chg g f w)
    (x:m*a<=2^24) (v:0<m*a) (r:boj s l=some vs) (A:Instr.fill (λi=>some (i*a,a)) ((Array.range (m*a)).map (ze.cells[· % ze.cells.size]!)) vs=some cs.toArray) (C:Nat.blt d n=true)
    (k : ∀ b w',New w b (.cells cs.toArray e) w'->Chg g f w'->WK P ops K (Chg g f) z fuel (listed.setIfInBounds i true) n D ((d,.slice (some ⟨b,0,none⟩) m m)::s) w'):WK P ops K (Chg g f) z (fuel+1) listed n D s w:=by
  obtain ⟨b,w',B,h⟩:=aoj (P:=P) (ty:=ty) (w:=w) (t:=t) (hT:=hT) (hE:=hE) x v r A
  exact WK.one i y u B (λ_=>o.trans (Chg.any h.chg)) C (k b w' h (o.trans (Chg.any h.chg)))
end
end Sx
end
section
open Go Sx Wd Fl
namespace Sx
section
variable {P:Program} {n:Nat} {D:List Deferred} {s:Sl} {w:World} {ops:Array Oper} {K:KK} {rest:List Oper} {ty:TypeId} {pos:String} {af:Array Edge} {x y:Operand}
end
end Sx
end
section
open Go Sx Wd Fl
namespace Sx
section
variable {P:Program} {n:Nat} {D:List Deferred} {s:Sl} {w:World} {ops:Array Oper} {K:KK} {rest:List Oper} {ty:TypeId} {pos:String} {af:Array Edge} {d:Nat} {x y:Operand}
theorem Ev.det{f:Op}{v u:Value}{w' e:World}(i:Ev P s f ty w v w')(g:Ev P s f ty w u e):v=u/\w'=e:=by
  have a:=i (λx=>(k6 s x).getD undef) none "" #[] none (λx u h=>by simp[h])
  have b:=g (λx=>(k6 s x).getD undef) none "" #[] none (λx u h=>by simp[h])
  rw[a] at b
  injection b with c d
  injection c with c
  exact ⟨c,d⟩
theorem ev_growO{t e be:Nat}{de:TypeDesc}{ze:Value}{sz a8:Nat}{z:Value}{f:Nat->Value}{lo g cap k:Nat}{X:List Nat}{l news:List Nat}{Q:Addr}{mm c:Nat}[hT:aJ P t (.slice e) sz a8 z][hE:aJ P e de 1 be ze]
    (D:ze.cells.size=1) (h1 : ∀ i,(f i).oneCell'=true) (Y:k6 s x=some (.slice (some ⟨g,0,none⟩) k cap)) (V:k6 s y=some (.slice (some Q) mm c)) (hg:GR w e f lo X (.slice (some ⟨g,0,none⟩) k cap) l) (R:mm=news.length) (hr:RW w (some Q) (news.map f)) (H:lo<=w.heap.size) (hX : ∀ b∈X,b<w.heap.size)
    (h:(l.length+news.length)*be<=140737488355328) (a5:l.length+news.length<=70368744177664) :
    ∃ v' w',Ev P s (.call ⟨.builtin .append,[x,y].toArray,#[t,t]⟩) ty w v' w'/\GR w' e f lo X v' (l++news)/\Chg [g] w w'/\RW w' (some ⟨g,0,none⟩) (l.map f):=by
  obtain ⟨G,hk,c3⟩:=hg.rw_
  subst hk
  have n : ∀ j u,(news.map f)[j]?=some u->w.cell? (Q.add j)=some u:=λj u F=>by
    obtain ⟨b0,q,a⟩:=hr j u F
    cases q;exact a
  have v : ∀ u∈news.map f,u.oneCell'=true:=λu F=>by
    obtain ⟨i,_,rfl⟩:=List.mem_map.1 F
    exact h1 i
  by_cases hroom:l.length+mm<=cap
  · obtain ⟨v',w',T,M,hc⟩:=dux (P:=P) (s:=s) (ty:=ty) (t:=t) (hT:=hT) (hE:=hE) D h1 Y V hg R hr H hX h a5
    obtain ⟨i,hi,p,J,I⟩:=hE.inf
    obtain ⟨_,d⟩:=id hg.1
    rcases d with ⟨h0,_⟩|⟨g',cp,B,q,_,A,c1,c6,a3,Z⟩
    · cases h0
    · cases q
      have m:=run_append_room (P:=P) w t ty e i hT.und hi g l.length cap B A Q mm c (news.map f) (by rw[p];simp;omega) n v hroom (by rw[p,a3];simp;omega)
      have h2:Ev P s (.call ⟨.builtin .append,[x,y].toArray,#[t,t]⟩) ty w _ _:=λρ d' U af g9 C=>by
        have q:=C x _ Y
        have e2:=C y _ V
        simp[execOp,resolve,invoke,builtin,q,e2,m]
        exact ⟨rfl,rfl⟩
      obtain ⟨hv,hw⟩:=Ev.det T h2
      subst hv
      refine ⟨_,w',T,M,hc,?_⟩
      have h3:=M.rw_.1
      rw[List.map_append] at h3
      exact h3.append_left
  · obtain ⟨i,hi,p,J,I⟩:=hE.inf
    obtain ⟨v',w',m,ho,o⟩:=run_append_arg_grows (P:=P) (w:=w) t ty e i ze 1 be hT.und hi I p J D oO ⟨g,0,none⟩ l.length cap (l.map f) oS (λj u F=>by
      obtain ⟨b0,q,a⟩:=G j u F
      cases q;exact a) Q mm c (news.map f) oT n oO (by unfold maxLen;omega) (by rw[R];exact h)
    have O:Chg [] w w':=⟨o.os,o.tape,o.output,o.size,λj hj _=>o.block j hj (λT=>by cases T)⟩
    refine ⟨v',w',λρ d' U af g9 C=>?_,?_,Chg.any O,G.q8 O⟩
    · have q:=C x _ Y
      have e2:=C y _ V
      simp[execOp,resolve,invoke,builtin,q,e2,m]
    · obtain ⟨c2,d⟩:=ho
      rcases d with ⟨rfl,h0⟩|⟨g',cp,B,rfl,hb,r⟩
      · exfalso;omega
      · refine ⟨⟨by simp,.inr ⟨g',cp,B,by rw[List.length_append,<- R],Nat.zero_le _,?_⟩⟩,λb a4=>?_⟩
        · rw[List.length_append,List.map_append,<- R];exact r
        · cases a4
          exact ⟨Nat.le_trans H hb,λa0=>by have h9:g'<w.heap.size:=hX _ a0;omega⟩
end
end Sx
end
section
open Go Sx Wd Fl
def Apart(val:Nat->Value)(n:Nat):Prop:=∀ p q b,p<n->q<n->p≠q->(val p).ownBlock=some b->(val q).ownBlock≠some b
def Rows_(w:World)(e:TypeId)(lo:Nat)(X:List Nat)(val:Nat->Value)(L:Nat->List Nat)(n:Nat):Prop:=∀ p,p<n->GR w e bkx lo X (val p) (L p)
def lput(L:Nat->List Nat)(p:Nat)(l:List Nat)(q:Nat):List Nat:=if q=p then l else L q
end
namespace Sx
open Go
section
variable {P:Program} {n:Nat} {D:List Deferred} {s:Sl} {w:World} {ops:Array Oper} {K:KK} {rest:List Oper} {ty:TypeId} {pos:String} {af:Array Edge} {d:Nat} {x y:Operand}
end
end Sx
section
open Go Sx Wd Fl
end
section
open Go Sx Wd Fl
def upF(lo:Nat)(w:World):List Nat:=List.range' lo (w.heap.size-lo)
theorem GR.ge{w:World}{e:TypeId}{f:Nat->Value}{lo:Nat}{X:List Nat}{v:Value}{l:List Nat}(h:GR w e f lo X v l): ∀ b∈v.ownBlock.toList,lo<=b:=λb hb=>(h.2 b (Option.mem_toList.1 hb)).1
structure MI(e lo n:Nat)(X:List Nat)(val:Nat->Value)(L:Nat->List Nat)(w:World):Prop where
  rows:Rows_ w e lo X val L (n+n)
  eq : ∀ i,i<n->L (n+i)=L i
  len : ∀ i,(L i).length<=1000000
  wd : ∀ i,∀ x∈L i,x<18446744073709551616
def Sep(v u:Value):Prop:=∀ b,v.ownBlock=some b->u.ownBlock≠some b
theorem GR.wide{w:World}{e:TypeId}{f:Nat->Value}{lo:Nat}{X Y:List Nat}{v:Value}{l:List Nat}(h:GR w e f lo X v l)(a : ∀ b∈Y,v.ownBlock≠some b):GR w e f lo Y v l:=
  ⟨h.1,λb hb=>⟨(h.2 b hb).1,λhm=>a b hm hb⟩⟩
def chq(w:World)(v v':Value):Prop:=∀ b,v'.ownBlock=some b->v.ownBlock=some b\/w.heap.size<=b
def butB(w:World)(v:Value):List Nat:=(List.range w.heap.size).filter λb=>decide (v.ownBlock≠some b)
theorem butB_lt{w:World}{v:Value}: ∀ b∈butB w v,b<w.heap.size:=λb hb=>List.mem_range.1 (List.mem_filter.1 hb).1
theorem butB_own{w:World}{v:Value}: ∀ b∈butB w v,v.ownBlock≠some b:=λb hb=>of_decide_eq_true (List.mem_filter.1 hb).2
theorem chq.of{w w':World}{e:TypeId}{f:Nat->Value}{lo:Nat}{v v':Value}{l:List Nat}(h:GR w' e f lo (butB w v) v' l):chq w v v':=λb hb=>by
  by_cases q:w.heap.size<=b
  · exact .inr q
  · refine .inl (Classical.byContradiction λhn=>(h.2 b hb).2 ?_)
    exact List.mem_filter.2 ⟨List.mem_range.2 oO,decide_eq_true hn⟩
namespace Sx
section
variable {P:Program} {n:Nat} {D:List Deferred} {s:Sl} {w:World} {ops:Array Oper} {K:KK} {rest:List Oper} {ty:TypeId} {pos:String} {af:Array Edge} {d:Nat} {x y:Operand}
theorem ev_growV{t e J:Nat}{V:TypeDesc}{ze:Value}{O A:Nat}{z:Value}{f:Nat->Value}{lo:Nat}{X:List Nat}{v:Value}{l news:List Nat}{M:Addr}{mm c:Nat}[hT:aJ P t (.slice e) O A z][hE:aJ P e V 1 J ze]
    (j:ze.cells.size=1) (H : ∀ i,(f i).oneCell'=true) (C:k6 s x=some v) (B:k6 s y=some (.slice (some M) mm c)) (G:GR w e f lo X v l) (F:mm=news.length) (D:RW w (some M) (news.map f)) (n:lo<=w.heap.size)
    (d:(l.length+news.length)*J<=140737488355328) (p:l.length+news.length<=70368744177664) :
    ∃ v' w',Ev P s (.call ⟨.builtin .append,[x,y].toArray,#[t,t]⟩) ty w v' w'/\GR w' e f lo [] v' (l++news)/\Chg v.ownBlock.toList w w'/\chq w v v'/\∀ a m c,v = .slice a m c->RW w' a (l.map f):=by
  have o:=G.wide (Y:=butB w v) butB_own
  rcases bnq G.1 with ⟨rfl,T,Q⟩|⟨g,Z,rfl,q,_,_⟩
  · obtain ⟨v',w',r,h,q⟩:=dux (P:=P) (s:=s) (ty:=ty) (t:=t) (hT:=hT) (hE:=hE) j H C B o F D n butB_lt d p
    have R:l=[]:=List.length_eq_zero_iff.1 T
    refine ⟨v',w',r,h.wide (λb u=>by cases u),q,chq.of h,λa m c I=>?_⟩
    rw[R];exact RW.nil
  · obtain ⟨v',w',r,h,q,k⟩:=ev_growO (P:=P) (s:=s) (ty:=ty) (t:=t) (hT:=hT) (hE:=hE) j H C B o F D n butB_lt d p
    refine ⟨v',w',r,h.wide (λb u=>by cases u),q,chq.of h,λa m c I=>?_⟩
    injection I with U e3 e4
    rw[<- U];exact k
theorem WL.growV{t e q:Nat}{R:TypeDesc}{ze:Value}{u p:Nat}{z:Value}{f:Nat->Value}{lo:Nat}{X:List Nat}{v:Value}{l news:List Nat}{r:Addr}{mm c:Nat}[hT:aJ P t (.slice e) u p z][hE:aJ P e R 1 q ze]
    (g:ze.cells.size=1) (Q : ∀ i,(f i).oneCell'=true) (B:k6 s x=some v) (A:k6 s y=some (.slice (some r) mm c)) (I:GR w e f lo X v l) (H:mm=news.length) (F:RW w (some r) (news.map f)) (h:lo<=w.heap.size)
    (b:(l.length+news.length)*q<=140737488355328) (o:l.length+news.length<=70368744177664) (M:Nat.blt d n=true)
    (k : ∀ v' w',GR w' e f lo [] v' (l++news)->Chg v.ownBlock.toList w w'->chq w v v'->(∀ a m c,v = .slice a m c->RW w' a (l.map f))->WL P ops K rest n D ((d,v')::s) w') :
    WL P ops K (⟨some d,.call ⟨.builtin .append,[x,y].toArray,#[t,t]⟩,ty,pos,af,none⟩::rest) n D s w:=by
  obtain ⟨v',w',J,j,O,C,G⟩:=ev_growV (P:=P) (s:=s) (ty:=ty) (t:=t) (hT:=hT) (hE:=hE) g Q B A I H F h b o
  exact WL.ev J M (k v' w' j O C G)
end
end Sx
structure PE(i n k lo:Nat)(fO fW:Nat->Value)(L:Nat->List Nat)(w:World):Prop where
  g : ∀ p,i<=p->p<n->GR w 31 bkx lo [] (fO p) (L p)
  len : ∀ p,i<=p->p<n->(L p).length<=1000000
  s : ∀ p,i<=p->p<n->∀ q,q<k->(q≠p->Sep (fO q) (fO p))/\Sep (fW q) (fO p)
section
variable {i n k kO kW lo bk:Nat} {vO vW:Value} {fO fW:Nat->Value} {L:Nat->List Nat} {vl vw v':Value} {l1 l2 l3:List Nat} {w w':World}
end
end
section
open Go Sx Wd Fl
theorem GR.cells{w:World}{e:TypeId}{f:Nat->Value}{lo b:Nat}{X:List Nat}{v:Value}{l:List Nat}(h:GR w e f lo X v l)(d:v.ownBlock=some b): ∃ cur,w.heap[b]?=some (.cells cur e (0,0)):=by
  rcases h.1.2 with ⟨rfl,_⟩|⟨g,i,cur,rfl,_,a,_⟩
  · cases d
  · cases d;exact ⟨cur,a⟩
theorem GR.dnq{w:World}{e T:TypeId}{f:Nat->Value}{lo bk:Nat}{X:List Nat}{v:Value}{l:List Nat}{cs:List Value}(h:GR w e f lo X v l)(b:BK w bk T cs)(a:e≠T):v.ownBlock≠some bk:=λh1=>by
  obtain ⟨c1,q1⟩:=h.cells h1
  have q2:w.heap[bk]?=some (.cells cs.toArray T (0,0)):=b
  rw[q1] at q2
  injection q2 with q2
  injection q2 with _ q3
  exact a q3
end
section
open Go Sx Wd
def PQ(w:World)(e:TypeId)(es lo:Nat)(v:Value)(m:Nat)(cs:List Value):Prop:=
  (v = .slice none 0 0/\m=0/\cs=[])\/∃ g cap cur,v = .slice (some ⟨g,0,none⟩) m cap/\lo<=g/\w.heap[g]?=some (.cells cur e (0,0))/\cap*es<=cur.size/\m<=cap/\cap<=maxLen/\cs.length=m*es/\cur.toList.take (m*es)=cs/\∀ c∈cur.toList,xX c=false
section
variable {w w':World} {e:TypeId} {es lo m:Nat} {v:Value} {cs:List Value}
theorem PQ.nil:PQ w e es lo (.slice none 0 0) 0 []:=.inl ⟨rfl,rfl,rfl⟩
theorem PQ.dJ{T:List Nat}(h:PQ w e es lo v m cs)(i:Chg T w w')(hT : ∀ b∈T,v.ownBlock≠some b):PQ w' e es lo v m cs:=by
  rcases h with h|⟨g,d,a,rfl,l,k,j⟩
  · exact .inl h
  · exact .inr ⟨g,d,a,rfl,l,i.heap k (λf=>hT _ f rfl),j⟩
theorem PQ.q8(h:PQ w e es lo v m cs)(a:Chg [] w w'):PQ w' e es lo v m cs:=h.dJ a (λb hb=>by cases hb)
theorem PQ.ge(h:PQ w e es lo v m cs){b:Nat}(a:v.ownBlock=some b):lo<=b:=by
  rcases h with ⟨rfl,_⟩|⟨g,i,f,rfl,d,_⟩
  · cases a
  · cases a;exact d
theorem PQ.lt(h:PQ w e es lo v m cs){b:Nat}(a:v.ownBlock=some b):b<w.heap.size:=by
  rcases h with ⟨rfl,_⟩|⟨g,i,f,rfl,_,d,_⟩
  · cases a
  · cases a;exact a0q d
theorem PQ.cells(h:PQ w e es lo v m cs){b:Nat}(a:v.ownBlock=some b): ∃ cur,w.heap[b]?=some (.cells cur e (0,0))/\∀ c∈cur.toList,xX c=false:=by
  rcases h with ⟨rfl,_⟩|⟨g,i,cur,rfl,_,f,_,_,_,_,_,d⟩
  · cases a
  · cases a;exact ⟨cur,f,d⟩
theorem PQ.dnq{T:TypeId}{b:Nat}{l:List Value}(h:PQ w e es lo v m cs)(d:BK w b T l)(a:e≠T):v.ownBlock≠some b:=λq=>by
  obtain ⟨cur,hc,_⟩:=h.cells q
  have:=hc.symm.trans d
  simp at this
  exact a this.2
theorem PQ.q9{b:Nat}{T:TypeId}{l:List Value}(h:PQ w e es lo v m cs)(f:BK w b T l)(d:Chg [b] w w')(_ : ∀ c∈l,xX c=false)(a:e≠T:=by decide):PQ w' e es lo v m cs:=h.dJ d λx hx=>by
  rw[List.mem_singleton.1 hx];exact h.dnq f a
theorem PQ.row(h:PQ w e es lo v m cs): ∃ a c,v = .slice a m c/\m<=c/\RW w a cs/\cs.length=m*es:=by
  rcases h with ⟨rfl,rfl,rfl⟩|⟨g,f,d,rfl,x,o,t,n,s,l,k,r⟩
  · exact ⟨none,0,rfl,Nat.le_refl _,RW.nil,by simp⟩
  · refine ⟨_,f,rfl,n,λi u b=>⟨_,rfl,?_⟩,l⟩
    have j:BK w g e d.toList:=by unfold BK;simpa using o
    have q:=(List.getElem?_eq_some_iff.1 b).1
    have p:(⟨g,0,none⟩:Addr).add i=⟨g,i,none⟩:=by unfold Addr.add;split<;>simp_all
    rw[p]
    refine j.at_ ?_
    rw[<- k] at b
    rw[List.getElem?_take] at b
    split at b
    · exact b
    · cases b
theorem PQ.sl(h:PQ w e es lo v m cs): ∃ a c,v = .slice a m c:=by
  obtain ⟨a,c,b,_⟩:=h.row
  exact ⟨a,c,b⟩
theorem Sx.BK.news{b:Nat}{T:TypeId}{l:List Value}(h:BK w b T l): ∀ j q,l[j]?=some q->w.cell? ((⟨b,0,none⟩:Addr).add j)=some q:=λj q hq=>by
  have e1:(⟨b,0,none⟩:Addr).add j=⟨b,j,none⟩:=by unfold Addr.add;split<;>simp_all
  rw[e1];exact h.at_ hq
theorem PQ.nu{x:Value}{l:List Nat}(h:PQ w e es lo v m cs)(d:Chg v.ownBlock.toList w w')(b:NU w x l):NU w' x l:=by
  rcases h with ⟨rfl,_⟩|⟨g,k,a,rfl,s,j,r,q,p,o,n,i⟩
  · exact b.q8 d
  · have f:BK w g e a.toList:=by unfold BK;simpa using j
    exact b.q9 f d i
theorem PQ.bk{T:TypeId}{b:Nat}{l:List Value}(h:PQ w e es lo v m cs)(f:Chg v.ownBlock.toList w w')(d:BK w b T l)(a:e≠T):BK w' b T l:=
  d.dJ f (λhm=>h.dnq d a (Option.mem_toList.1 hm))
theorem PQ.frame{T:List Nat}{a:World}(h:PQ w e es lo v m cs)(f:Chg v.ownBlock.toList w w')(d:Chg T a w)(b:a.heap.size<=lo):Chg T a w':=
  d.step f λy hy=>.inr (Nat.le_trans b (h.ge (Option.mem_toList.1 hy)))
theorem PQ.other{e':TypeId}{f a i:Nat}{v':Value}{g:List Value}(h:PQ w e es lo v m cs)(k:PQ w e' f a v' i g)(j:Chg v'.ownBlock.toList w w')(d:e≠e'):PQ w' e es lo v m cs:=h.dJ j λb hb q=>by
  obtain ⟨cur,h1,_⟩:=h.cells q
  obtain ⟨cur',h2,_⟩:=k.cells (Option.mem_toList.1 hb)
  have:=h1.symm.trans h2
  simp at this
  exact d this.2
theorem mem_zero{z:Array Value}{n:Nat}{c:Value}(h:c∈(Builtin.zeroCells z n).toList)(a:0<z.size):c∈z.toList:=by
  unfold Builtin.zeroCells at h
  rw[Array.toList_map] at h
  obtain ⟨i,_,rfl⟩:=List.mem_map.1 h
  have:i%z.size<z.size:=Nat.mod_lt _ a
  rw[getElem!_pos z (i%z.size) this]
  exact Array.mem_toList_iff.2 (Array.getElem_mem this)
theorem ctq{ze:Value}(d:ze.cells.size=es)(l:0<es)(f : ∀ c∈ze.cells.toList,xX c=false){cap:Nat}(g:cs.length=m*es)(b:m<=cap)(a:cap<=maxLen)(k : ∀ c∈cs,xX c=false)(h:lo<=w.heap.size):
    PQ (w.drew.alloc (.cells (cs.toArray++Builtin.zeroCells ze.cells (cap-m)) e)) e es lo (.slice (some ⟨w.heap.size,0,none⟩) m cap) m cs:=by
  have j:(Builtin.zeroCells ze.cells (cap-m)).size=(cap-m)*es:=by rw[size_zeroCells,d]
  refine .inr ⟨w.heap.size,cap,_,rfl,h,heap_alloc_new w.drew _,?_,b,a,g,?_,λc i=>?_⟩
  · rw[Array.size_append,j,List.size_toArray,g,<- Nat.add_mul,show m+(cap-m)=cap by omega];exact Nat.le_refl _
  · rw[Array.toList_append,<- g];exact List.take_left
  · rw[Array.toList_append] at i
    rcases List.mem_append.1 i with q|q
    · exact k c q
    · exact f c (mem_zero q oO)
end
namespace Sx
section
variable {P:Program} {n:Nat} {D:List Deferred} {s:Sl} {w:World} {ops:Array Oper} {K:KK} {rest:List Oper} {ty:TypeId} {pos:String} {af:Array Edge} {d:Nat} {x y:Operand}
theorem ev_appQ{t e n be:Nat}{de:TypeDesc}{ze:Value}{sz b9:Nat}{z:Value}{v:Value}{lo m:Nat}{cs news:List Value}{M:Addr}{c:Nat}[hT:aJ P t (.slice e) sz b9 z][hE:aJ P e de n be ze]
    (Q:ze.cells.size=n) (Z:0<n) (R : ∀ c∈ze.cells.toList,xX c=false) (hx:k6 s x=some v) (hy:k6 s y=some (.slice (some M) 1 c)) (h:PQ w e n lo v m cs) (G:news.length=n) (f : ∀ j q,news[j]?=some q->w.cell? (M.add j)=some q) (h1 : ∀ q∈news,q.oneCell'=true) (C : ∀ q∈news,xX q=false) (V:lo<=w.heap.size) (c4:m<=1000000) (b7:be<=64) :
    ∃ v' w',Ev P s (.call ⟨.builtin .append,[x,y].toArray,#[t,t]⟩) ty w v' w'/\PQ w' e n lo v' (m+1) (cs++news)/\Chg v.ownBlock.toList w w'/\(∀ b,v'.ownBlock=some b->v.ownBlock=some b\/w.heap.size<=b):=by
  have b8:(m+1)*be<=140737488355328:=Nat.le_trans (Nat.mul_le_mul (by omega:m+1<=1000001) b7) oD
  obtain ⟨i,hi,A,Y,X⟩:=hE.inf
  have F:news.length=1*i.size:=by rw[A,Nat.one_mul];exact G
  have b4:m+1<=maxLen:=by unfold maxLen;omega
  have a0 : ∀ o:Obj,Chg v.ownBlock.toList w (w.drew.alloc o):=λo=>⟨rfl,rfl,rfl,by simp,λk hk _=>heap_alloc_old w.drew _ hk⟩
  rcases h with ⟨rfl,rfl,rfl⟩|⟨g,d,l,rfl,a1,a2,a3,a4,a5,a6,a7,a8⟩
  · have u:=run_append_nil (P:=P) w t ty e i ze hT.und hi X M 1 c news F f oD oD (by rw[Y];omega)
    refine ⟨_,_,λρ d' O af g' B=>?_,ctq (cs:=[]++news) (m:=0+1) Q Z R (by simpa using G) (grownCap_ge w 1 0 e) (grownCap_le_maxLen w 1 0 e oD) (λq D=>C q (by simpa using D)) V,a0 _,λb hb=>by cases hb;exact .inr (Nat.le_refl _)⟩
    have p:=B x _ hx
    have J:=B y _ hy
    simp[execOp,resolve,invoke,builtin,p,J,u]
  · by_cases hroom:m+1<=d
    · have hf:=run_firstCells_some (P:=P) w i.size 1 M 1 c news F f
      have r:(m+1)*n<=d*n:=Nat.mul_le_mul_right _ hroom
      rw[Nat.add_mul,Nat.one_mul] at r
      have T:=run_storeCells_at P g (0+m*i.size) e news 0 l w a2 (by rw[A,G];omega) h1
      simp only[Nat.add_zero,Nat.zero_add] at T
      have u:(Builtin.append_ #[t,t] ty #[.slice (some ⟨g,0,none⟩) m d,.slice (some M) 1 c]).run P w =
          .ok (.slice (some ⟨g,0,none⟩) (m+1) d) (w.setRow g (l.toList.take (m*i.size)++news++l.toList.drop (m*i.size+news.length)).toArray):=by
        simp[Builtin.append_,run_underlying hT.und,sizeOf,typeInfo,hi,Builtin.lenOf,hroom,hf,Addr.add_lit,T]
      rw[A] at u
      have H:Ev P s (.call ⟨.builtin .append,[x,y].toArray,#[t,t]⟩) ty w (.slice (some ⟨g,0,none⟩) (m+1) d) (w.setRow g (l.toList.take (m*n)++news++l.toList.drop (m*n+news.length)).toArray):=λρ d' O af g' B=>by
        have p:=B x _ hx
        have J:=B y _ hy
        simp[execOp,resolve,invoke,builtin,p,J,u]
      refine ⟨_,_,H,.inr ⟨g,d,_,rfl,a1,setRow_heap w g l _ e _ a2,?_,hroom,a5,?_,?_,λq D=>?_⟩,⟨rfl,rfl,rfl,by simp,λk _ hk=>setRow_other w g k _ (λe=>hk (by simp[Value.ownBlock,e]))⟩,λb hb=>.inl hb⟩
      · simp only[List.size_toArray,List.length_append,List.length_take,List.length_drop,Array.length_toList,G]
        omega
      · rw[List.length_append,a6,G,Nat.add_mul,Nat.one_mul]
      · rw[a7,Nat.add_mul,Nat.one_mul]
        have:m*n+n=(cs++news).length:=by rw[List.length_append,a6,G]
        rw[this]
        exact List.take_left
      · rcases List.mem_append.1 D with z|z
        · rcases List.mem_append.1 z with y|y
          · exact a8 q (List.mem_of_mem_take y)
          · exact C q y
        · exact a8 q (List.mem_of_mem_drop z)
    · have U:RW w (some ⟨g,0,none⟩) cs:=by
        obtain ⟨a,c',p,_,u,_⟩:=PQ.row (lo:=lo) (.inr ⟨g,d,l,rfl,a1,a2,a3,a4,a5,a6,a7,a8⟩)
        cases p;exact u
      have u:=run_append_grow (P:=P) w t ty e i ze hT.und hi X ⟨g,0,none⟩ m d cs (by rw[A];exact a6) (λj q D=>by
        obtain ⟨d5,p,I⟩:=U j q D
        cases p;exact I) M 1 c news F f oO oO (growslice_fits oO (by rw[Y];exact b8))
      have H:Ev P s (.call ⟨.builtin .append,[x,y].toArray,#[t,t]⟩) ty w (.slice (some ⟨w.heap.size,0,none⟩) (m+1) (grownCap w (m+1) d e)) (w.drew.alloc (.cells ((cs++news).toArray++Builtin.zeroCells ze.cells (grownCap w (m+1) d e-(m+1))) e)):=λρ d' O af g' B=>by
        have p:=B x _ hx
        have J:=B y _ hy
        have e3:(cs++news).toArray=cs.toArray++news.toArray:=by simp
        rw[e3]
        simp only[execOp,resolve,invoke,builtin,p,J] at u ⊢
        simp[p,J,u,execOp,resolve,invoke,builtin]
      refine ⟨_,_,H,ctq Q Z R (by rw[List.length_append,a6,G,Nat.add_mul,Nat.one_mul]) (grownCap_ge w (m+1) d e) (grownCap_le_maxLen w (m+1) d e b4) (λq D=>?_) V,a0 _,λb hb=>by cases hb;exact .inr (Nat.le_refl _)⟩
      rcases List.mem_append.1 D with z|z
      · rw[<- a7] at z
        exact a8 q (List.mem_of_mem_take z)
      · exact C q z
theorem WL.appQ{t e f B:Nat}{U:TypeDesc}{ze:Value}{F A:Nat}{z:Value}{v:Value}{lo m:Nat}{cs news:List Value}{C:Addr}{c:Nat}[hT:aJ P t (.slice e) F A z][hE:aJ P e U f B ze]
    (i:ze.cells.size=f) (r:0<f) (l : ∀ c∈ze.cells.toList,xX c=false) (H:k6 s x=some v) (G:k6 s y=some (.slice (some C) 1 c)) (h:PQ w e f lo v m cs) (J:news.length=f) (a : ∀ j q,news[j]?=some q->w.cell? (C.add j)=some q) (T : ∀ q∈news,q.oneCell'=true) (o : ∀ q∈news,xX q=false) (p:lo<=w.heap.size) (g:m<=1000000) (u:B<=64) (Q:Nat.blt d n=true)
    (k : ∀ v' w',PQ w' e f lo v' (m+1) (cs++news)->Chg v.ownBlock.toList w w'->(∀ b,v'.ownBlock=some b->v.ownBlock=some b\/w.heap.size<=b)->WL P ops K rest n D ((d,v')::s) w') :
    WL P ops K (⟨some d,.call ⟨.builtin .append,[x,y].toArray,#[t,t]⟩,ty,pos,af,none⟩::rest) n D s w:=by
  obtain ⟨v',w',O,I,R,M⟩:=ev_appQ (P:=P) (s:=s) (ty:=ty) (t:=t) (hT:=hT) (hE:=hE) i r l H G h J a T o p g u
  exact WL.ev O Q (k v' w' I R M)
end
end Sx
end
section
open Go Sx Wd Fl
theorem rep_get{p i:Nat}{L:List Nat}: (List.replicate p 0++L).getD (p+i) 0=L.getD i 0:=by
  rw[List.getD_eq_getElem?_getD,List.getElem?_append_right oS,List.length_replicate,Nat.add_sub_cancel_left,<- List.getD_eq_getElem?_getD]
theorem rep_set2{p i v:Nat}{L:List Nat}: (List.replicate p 0++L).set (p+i) v=List.replicate p 0++L.set i v:=by
  rw[List.set_append_right _ _ oS,List.length_replicate,Nat.add_sub_cancel_left]
theorem val_zeros2(k:Nat)(l:List Nat):val (List.replicate k 0++l)=val l*2^(32*k):=by
  rw[azq,agx,List.length_replicate,Nat.zero_add,Nat.mul_comm]
structure KHi(l:List Nat)(p s:Nat)(w0:World)(b:Nat)(g:Nat×List Nat)(w:World):Prop where
  up:UpI l s g.1 g.2
  hB:OB w b 162 (List.replicate p 0++g.2)
  ch:Chg [] w0 w
theorem higher_spec(v:Value)(l:List Nat)(k p s:Nat)(w:World)(h:NU w v l)(a9:l.length<=1000000)(hk:k<=1000000000)(hp:p=k/32)(a7:s=k%32):Ret Tryz.prog 253 [v,.int .i64 (k:Int)] w λu w'=>∃ L,NU w' u L/\val L=val l*2^k/\Chg [] w w':=by
 obtain ⟨⟨al,cl,rfl,Z,D⟩,o,b0⟩:=h;have d:=crf w;have hs:s<32:=by omega
 have j:(k:Int)/32=(p:Int):=by omega
 have F:(k:Int)%32=(s:Int):=by omega
 refine zE2 Tryz.func253 rfl ?_;refine Sr λ_ U=>za rfl (zz (U (Sr λ_ T=>zm rfl ?_)));refine WL.ev (Ev.b1x rfl rfl oO (by simp only[IntKind.max,IntKind.signed,IntKind.bits];omega) oO) rfl ?_;rw[j];refine zm rfl (zn rfl ?_);(first|refine zi rfl rfl ?_|refine zo rfl rfl ?_);(first|refine zi rfl rfl ?_|refine zo rfl rfl ?_);refine WL.bcq (((p+(l).length)+1)) (((p+(l).length)+1)) rfl rfl oO oO oO oO oO rfl λM a1 a n m=>?_;have q:=Nat.le_trans d.size m;have d:=d.ta n;refine za rfl (zz (T (zc λ_ R=>Sr λ_ Q=>zm rfl (zn rfl (zm rfl (zz (Q (CW.block ?_))))))));refine CW.loop (S:=λg:Nat×List Nat=>[(1,.int .i64 (k:Int)),(5,.slice (some ⟨M,0,none⟩) (p+l.length+1) (p+l.length+1)),(16,.slice al l.length cl),(17,.int .i64 (l.length:Int)),(18,.int .i64 (g.1:Int))]) (Inv:=KHi l p s w M) (mu:=λg=>l.length-g.1) ((0,List.replicate (l.length+1) 0)) ?_ ?_ ?_
 ·exact ⟨UpI.zero l s,by rw[List.replicate_append_replicate,show p+(l.length+1)=p+l.length+1 by omega];exact a,d⟩
 ·exact SLp
 rintro ⟨i,L⟩ wr ⟨f,a,d⟩;dsimp only at f a d;dsimp only;have b1:=f.le;have b2:=f.len;have J:=f.w;refine Sr λ_ O=>zL rfl rfl (zz (O (zc λ_ C=>?_)));refine zy rfl ?_ ?_<;>intro a0<;>try simp only[qs] at a0
 ·have V:=f.step hs o oO;have a6:=o.getD i
  have Y:(List.replicate p 0++L).getD (p+i) 0=L.getD i 0:=rep_get;have a3:=J.getD i;have X:(List.replicate p 0++L).length=p+l.length+1:=by simp;omega
  generalize hLL:List.replicate p 0++L=LL at *;refine zkk (C (zc λ_ B=>CW.block (Sr λ_ A=>zm rfl ?_)));refine WL.ev (Ev.ixR (i) rfl rfl (D.q8 d) oO oO oT) rfl ?_;refine WL.ev (Ev.load rfl rfl ((D.q8 d).u32 oF)) rfl ?_;have a2:=o.getD (i);refine za rfl (za rfl (zz (A (Sr λ_ z=>zm rfl ?_))));refine WL.ev (Ev.eZ rfl rfl (jX oO)) rfl ?_;refine zm rfl ?_;refine WL.ev (Ev.dhq rfl rfl oO oO) rfl ?_;rw[F];refine WL.ev (Ev.aqx rfl rfl) rfl ?_;refine za rfl (zz (z (Sr λ_ y=>zm rfl (zm rfl ?_))));refine WL.ev (Ev.b1x rfl rfl oO (by simp only[IntKind.max,IntKind.signed,IntKind.bits];omega) oO) rfl ?_;rw[j];refine zm rfl ?_;(first|refine zi rfl rfl ?_|refine zo rfl rfl ?_);refine WL.ev (Ev.ixB ((p+i)) rfl rfl oO oO) rfl ?_;refine WL.ev (Ev.load rfl rfl (a.u32 oF)) rfl ?_;rw[Y];refine zm rfl ?_;refine WL.ev (Ev.tJ rfl rfl) rfl ?_;refine WL.ev (Ev.orU rfl rfl rfl (by simp only[IntKind.bits];omega) (by simp only[IntKind.bits];omega)) rfl ?_;refine WL.ev (Ev.ixB ((p+i)) rfl rfl oO oO) rfl ?_;refine WL.tQ rfl rfl a (by first|omega|(simp;done)|(simp;omega)) λa5 e I=>?_;have d:=d.s1 I;have a:=e;refine zz (y ?_);refine zR λ_ t=>?_;refine zm rfl (zm rfl ?_);refine WL.ev (Ev.b1x rfl rfl oO (by simp only[IntKind.max,IntKind.signed,IntKind.bits];omega) oO) rfl ?_;rw[j];refine zm rfl ?_;(first|refine zi rfl rfl ?_|refine zo rfl rfl ?_);(first|refine zi rfl rfl ?_|refine zo rfl rfl ?_);refine zm rfl ?_;refine WL.ev (Ev.avx (b:=32) rfl rfl (by simp only[IntKind.bits];omega)) rfl ?_;refine WL.ev (Ev.tJ rfl rfl) rfl ?_;refine WL.ev (Ev.ixB (((p+i)+1)) rfl rfl oO oO) rfl ?_;refine WL.tQ rfl rfl a (by first|omega|(simp;done)|(simp;omega)) λa4 e H=>?_;have d:=d.s1 H;have a:=e;refine WL.nil (t _ _ _ (B ?_));refine zS λ_ r=>?_;(first|refine zi rfl rfl ?_|refine zo rfl rfl ?_);refine zm rfl (zz (r ?_));refine ⟨rfl,(i+1,((L.set i (L.getD i 0||| (l.getD i 0*2^s%18446744073709551616%4294967296))).set (i+1) (l.getD i 0*2^s%18446744073709551616/2^32%4294967296))),?_,?_,?_⟩
  ·exact SLp
  ·refine ⟨V.2,?_,d⟩;rw[<- hLL,Nat.add_assoc,rep_set2,rep_set2] at a;exact a
  show l.length-(i+1)<l.length-i;omega
 have G:i=l.length:=by omega
 subst G;refine CW.exit ?_;refine R (Sr λ_ x=>zm rfl (za rfl (zz (x ?_))));refine zr (zr1 rfl rfl ?_);refine ⟨_,NU.nX a (apq.2 ⟨oJ _,J⟩) oT oT (Nat.le_refl _),?_,d⟩;rw[val_zeros2,f.done,Nat.mul_assoc,<- Nat.pow_add,show s+32*p=k by omega]
theorem bl_W{l:List Nat}{k:Nat}(h:W l)(a:l.length<=k):bl (val l)<=32*k:=
  vQ.2 (Nat.lt_of_lt_of_le (vZ h) (Nat.pow_le_pow_right oD oO))
theorem wrap_sub{a b:Int}{d:Nat}(h:(d:Int)=a-b)(e:d<18446744073709551616):IntKind.u64.wrap (IntKind.u64.wrap a-IntKind.u64.wrap b)=(d:Int):=by
  simp only[IntKind.wrap_u64]
  omega
theorem c0x(na nb:Bool)(va vb:Value)(k l:List Nat)(r q:Int)(w:World)(M:NU w va k)(hb:NU w vb l)(a0:k.length<=1000000)(Z:l.length<=1000000)(c3 : -1000000000000<=r/\r<=1000000000000)(c2 : -1000000000000<=q/\q<=1000000000000)(hz:val k≠0)(c1:q<=r)(d:Nat)(hd:(d:Int)=r-q):Ret Tryz.prog 220 [.agg [.bool na,va,.int .i64 r].toArray,.agg [.bool nb,vb,.int .i64 q].toArray] w λu w'=>u = .int .i64 (sgn (val k*2^d) (val l))/\Chg [] w w':=by
 have I:=M;have H:=hb;have b8:=M.one;have b7:=hb.one;have a:=crf w;have c6:=bl_W M.hw a0;have c5:=bl_W hb.hw Z;have b9:=bZ M.hw;refine zE2 Tryz.func220 rfl ?_;refine Sr λ_ V=>?_;refine zBh rfl rfl rfl a λb2 b1 e a9 a8 C a=>?_;refine zBh rfl rfl rfl a λb3 b0 f F D B a=>?_;have J:=zdd e.lt D;have e:=e.k0 F;refine za rfl (zz (V (zc λ_ U=>Sr λ_ T=>zf rfl (zl e rfl rfl (zf rfl (zl f rfl rfl (zL rfl rfl ?_)))))));rw[decide_eq_false (show ¬r<q by omega)];refine zz (T ?_);refine CW.mQ rfl ?_;refine zkk (U (Sr λ_ R=>zf rfl (zl e rfl rfl ?_)));refine WL.ev (Ev.conv rfl rfl) rfl ?_;refine zf rfl (zl f rfl rfl ?_);refine WL.ev (Ev.conv rfl rfl) rfl ?_;refine WL.ev (Ev.sub rfl rfl) rfl ?_;rw[wrap_sub hd oO];refine za rfl (zz (R (zc λ_ Q=>?_)));refine CW.cQ 10 rfl dZ λb6 O b h=>?_;have a:=a.ta h;have e:=e.k0 h;have f:=f.k0 h;have j:=e;have i:=f;refine wh 0 rfl b (eF rfl) (wh 1 rfl b (λ_ g=>Ev.load rfl rfl ((j.q8 g).at_ rfl)) (wh 4 rfl b (eF rfl) (wh 5 rfl b (λ_ g=>Ev.load rfl rfl ((i.q8 g).at_ rfl)) ?_)));refine WH.k7 2 rfl oR hasF139 rfl rfl (a4j _ k _ (I.q8 a)) λv w1 m=>?_;obtain ⟨rfl,rfl⟩:=m;refine ⟨b,?_⟩;refine wh 3 rfl b (λ_ _=>Ev.eZ rfl rfl (jX oO)) ?_;refine WH.k7 6 rfl oR hasF139 rfl rfl (a4j _ l _ (H.q8 a)) λv w2 m=>?_;obtain ⟨rfl,rfl⟩:=m;refine ⟨b,?_⟩;refine wh 7 rfl b (λ_ _=>Ev.eZ rfl rfl (jX oO)) (wh 8 rfl b (eA rfl) (wh 9 rfl b (eA rfl) ?_));refine WH.done oR (O _ _ _ ?_);refine Q (zc λ_ A=>CW.block ?_);refine CW.oX 32 (decide (bl (val l)<bl (val k)+d)) ?_ ?_
 ·refine zS λ_ n=>zm rfl (zm rfl (zG rfl rfl (zm rfl ?_)));refine zb ?_ ?_<;>intro a1<;>try simp only[qs] at a1
  ·refine zv rfl (zv rfl (zv rfl (zv rfl (zv rfl (zt rfl rfl (za rfl (zz (n ?_))))))));refine ⟨rfl,rfl,j0.g8 rfl ?_ ?_⟩
   ·first|(simp;omega)|(simp_all;done)|(refine decide_eq_decide.2 ?_;omega)
   exact SMg
  refine zw rfl (zm rfl (zw rfl (zm rfl (zw rfl ?_))))
  first|refine WL.ev (Ev.iJ rfl rfl oO) rfl ?_|refine WL.ev (Ev.abq rfl rfl) rfl ?_
  refine zw rfl (zm rfl (zw rfl (zG rfl rfl (ze rfl rfl (za rfl (zz (n ?_)))))));refine ⟨rfl,rfl,j0.g8 rfl ?_ ?_⟩
  ·first|(simp;omega)|(simp_all;done)|(refine decide_eq_decide.2 ?_;omega)
  exact SMg
 refine zy rfl ?_ ?_<;>intro p<;>try simp only[qs] at p
 ·have hq:bl (val l)<bl (val k)+d:=p
  refine Sr λ_ z=>za rfl (zz (z ?_));refine zr (zr1 rfl rfl ?_);refine ⟨?_,a⟩;rw[bl_sgn.2 (by rw[adj hz];exact hq)]
 have hq : ¬bl (val l)<bl (val k)+d:=p;refine Sr λ_ y=>zm rfl (zm rfl ?_)
 first|refine WL.ev (Ev.iJ rfl rfl oO) rfl ?_|refine WL.ev (Ev.abq rfl rfl) rfl ?_
 refine zm rfl (zL rfl rfl (za rfl (zz (y ?_))));refine zy rfl ?_ ?_<;>intro G<;>try simp only[qs] at G
 ·have Y:bl (val k)+d<bl (val l):=by have:=G;omega
  refine Sr λ_ x=>za rfl (zz (x ?_));refine zr (zr1 rfl rfl ?_);refine ⟨?_,a⟩;rw[bl_sgn.1 (by rw[adj hz];exact Y)]
 refine zkk (A (zc λ_ t=>?_));refine CW.cQ 10 rfl dZ λa5 s b h=>?_;have a:=a.ta h;have e:=e.k0 h;have f:=f.k0 h;have j:=e;have i:=f;refine wh 0 rfl b (eF rfl) (wh 1 rfl b (λ_ g=>Ev.load rfl rfl ((j.q8 g).at_ rfl)) (wh 3 rfl b (eM rfl) (wh 4 rfl b (λ_ _=>Ev.eZ rfl rfl (tX oO)) (wh 6 rfl b (eF rfl) (wh 7 rfl b (λ_ g=>Ev.load rfl rfl ((i.q8 g).at_ rfl)) ?_)))));refine WH.k7 2 rfl oR hasF206 rfl rfl (b9x _ k _ (I.q8 a)) λv w3 m=>?_;obtain ⟨hN,o⟩:=m;have a:=a.ta o;have b:=b.trans o;refine ⟨b,?_⟩;refine WH.k7 5 rfl oR hasF253 rfl rfl (higher_spec _ (wd (val k)) d _ _ _ hN oO oO rfl rfl) λv w4 m=>?_;obtain ⟨L,hL,X,o⟩:=m;have a:=a.ta o;have b:=b.trans o;refine ⟨b,?_⟩;refine WH.k7 8 rfl oR hasF169 rfl rfl (dyq _ _ L l _ hL (H.q8 a)) λv w5 m=>?_;obtain ⟨rfl,o⟩:=m;have a:=a.ta o;have b:=b.trans o;refine ⟨b,?_⟩;refine wh 9 rfl b (eA rfl) ?_;refine WH.done oR (s _ _ _ ?_);refine t ?_;refine zr (zr1 rfl rfl ?_);refine ⟨?_,a⟩;rw[X,g7]
theorem sizeLt_spec(H G:Bool)(F D:Value)(h g:List Nat)(f e:Int)(w:World)(O:NU w F h)(M:NU w D g)(y:h.length<=1000000)(x:g.length<=1000000)(A : -1000000000000<=f/\f<=1000000000000)(z : -1000000000000<=e/\e<=1000000000000)(U:val h≠0)(r:val g≠0)(t:f<e):Ret Tryz.prog 220 [.agg [.bool H,F,.int .i64 f].toArray,.agg [.bool G,D,.int .i64 e].toArray] w λu w'=>u = .int .i64 (bvx (val h) f (val g) e)/\Chg [] w w':=by
 have C:=O;have B:=M;have Y:=O.one;have X:=M.one;have a:=crf w;obtain ⟨d,Z⟩ : ∃ d:Nat,(d:Int)=e-f:=⟨(e-f).toNat,by omega⟩;refine zE2 Tryz.func220 rfl ?_;refine Sr λ_ q=>?_;refine zBh rfl rfl rfl a λb2 R b J I j a=>?_;refine zBh rfl rfl rfl a λb3 Q m l k i a=>?_;have n:=zdd b.lt k;have b:=b.k0 l;refine za rfl (zz (q (zc λ_ T=>Sr λ_ p=>zf rfl (zl b rfl rfl (zf rfl (zl m rfl rfl (zL rfl rfl ?_)))))));rw[decide_eq_true t];refine zz (p ?_);refine CW.nJ rfl ?_;refine Sr λ_ o=>zg m rfl (zg b rfl ?_);refine WL.call hasF220 rfl rfl (c0x G H _ _ g h e f _ (B.q8 a) (C.q8 a) x y z A r oO d Z) λv w1 h'=>?_;obtain ⟨rfl,hC⟩:=h';have s:=sgn_swap (val g*2^d) (val h);have V : -1<=sgn (val g*2^d) (val h)/\sgn (val g*2^d) (val h)<=1:=by unfold sgn;split<;>(try split)<;>omega
 have a:=a.ta hC;refine WL.ev (Ev.bpx rfl oO) rfl ?_;refine za rfl (zz (o ?_));refine zr (zr1 rfl rfl ?_);refine ⟨?_,a⟩;rw[s];unfold bvx;rw[show (f-min f e).toNat=0 by omega,show (e-min f e).toNat=d by omega,Nat.pow_zero,Nat.mul_one]
theorem dsize_spec(p o:Bool)(n m:Value)(f e:List Nat)(b a:Int)(w:World)(s:NU w n f)(r:NU w m e)(j:f.length<=1000000)(i:e.length<=1000000)(l : -1000000000000<=b/\b<=1000000000000)(k : -1000000000000<=a/\a<=1000000000000)(g:val f≠0)(q:val e≠0):Ret Tryz.prog 220 [.agg [.bool p,n,.int .i64 b].toArray,.agg [.bool o,m,.int .i64 a].toArray] w λu w'=>u = .int .i64 (bvx (val f) b (val e) a)/\Chg [] w w':=by
  by_cases h:b<a
  · exact sizeLt_spec p o n m f e b a w s r j i l k g q h
  obtain ⟨d,t⟩ : ∃ d:Nat,(d:Int)=b-a:=⟨(b-a).toNat,by omega⟩;refine (c0x p o n m f e b a w s r j i l k g oO d t).mono λu w' ⟨x,v⟩=>⟨?_,v⟩;rw[x];unfold bvx;rw[show (b-min b a).toNat=d by omega,show (a-min b a).toNat=0 by omega,Nat.pow_zero,Nat.mul_one]
theorem d5x(neg:Bool)(n:Nat): -1<=sgD neg n/\sgD neg n<=1:=by unfold sgD;split<;>(try split)<;>omega
theorem cmpV_range(m:Nat)(e:Int)(n:Nat)(f:Int): -1<=bvx m e n f/\bvx m e n f<=1:=by unfold bvx sgn;split<;>(try split)<;>omega
theorem mul_small{a b:Int}(e : -1<=a/\a<=1)(d : -1<=b/\b<=1): -9223372036854775808<=a*b/\a*b<=9223372036854775807:=by
  rcases (by omega:a = -1\/a=0\/a=1) with rfl|rfl|rfl<;>rcases (by omega:b = -1\/b=0\/b=1) with rfl|rfl|rfl<;>decide
theorem ebq(g i:Bool)(va vb:Value)(e f:List Nat)(y x:Int)(w:World)(ha:NU w va e)(hb:NU w vb f)(a4:e.length<=1000000)(a3:f.length<=1000000)(a6 : -1000000000000<=y/\y<=1000000000000)(a5 : -1000000000000<=x/\x<=1000000000000):Ret Tryz.prog 150 [.agg [.bool g,va,.int .i64 y].toArray,.agg [.bool i,vb,.int .i64 x].toArray] w λu w'=>u = .int .i64 (bqq g (val e) y i (val f) x)/\Chg [] w w':=by
 have O:=ha;have M:=hb;have c2:=ha.one;have c1:=hb.one;have a:=crf w;have a2:=d5x g (val e);have b9:=d5x i (val f);refine zE2 Tryz.func150 rfl ?_;refine Sr λ_ Z=>?_;refine zBh rfl rfl rfl a λb2 b7 b b1 b0 H a=>?_;refine zBh rfl rfl rfl a λb3 b6 d J I G a=>?_;have R:=zdd b.lt I;have b:=b.k0 J;refine za rfl (zz (Z (zc λ_ Y=>?_)));refine CW.cQ 6 rfl dZ λb8 T j n=>?_;have a:=a.ta n;have b:=b.k0 n;have d:=d.k0 n;have t:=b;have s:=d;refine wh 0 rfl j (λ_ m=>Ev.rZ rfl rfl (t.q8 m) rfl) (wh 2 rfl j (λ_ m=>Ev.rZ rfl rfl (s.q8 m) rfl) ?_);refine WH.k7 1 rfl oR hasF74 rfl rfl (akq g _ e y _ (O.q8 a)) λv w1 Q=>?_;obtain ⟨rfl,h⟩:=Q;have a:=a.ta h;have b:=b.k0 h;have d:=d.k0 h;have j:=j.trans h;refine ⟨j,?_⟩;refine WH.k7 3 rfl oR hasF74 rfl rfl (akq i _ f x _ (M.q8 a)) λv w2 Q=>?_;obtain ⟨rfl,h⟩:=Q;have a:=a.ta h;have b:=b.k0 h;have d:=d.k0 h;have j:=j.trans h;refine ⟨j,?_⟩;refine wh 4 rfl j (eA rfl) (wh 5 rfl j (eA rfl) ?_);refine WH.done oR (T _ _ _ ?_);refine Y (zc λ_ X=>CW.block (Sr λ_ V=>zm rfl (zm rfl (zL rfl rfl (za rfl (zz (V ?_)))))));refine zy rfl ?_ ?_<;>intro r<;>try simp only[qs] at r
 ·have F:(sgD g (val e))<(sgD i (val f)):=r
  refine Sr λ_ U=>za rfl (zz (U ?_));refine zr (zr1 rfl rfl ?_);refine ⟨?_,a⟩;unfold bqq;rw[if_pos F]
 have F : ¬(sgD g (val e))<(sgD i (val f)):=by have:=r;omega
 refine Sr λ_ D=>zm rfl (zm rfl (zG rfl rfl (za rfl (zz (D ?_)))));refine zy rfl ?_ ?_<;>intro p<;>try simp only[qs] at p
 ·have l:(sgD i (val f))<(sgD g (val e)):=p
  refine Sr λ_ C=>za rfl (zz (C ?_));refine zr (zr1 rfl rfl ?_);refine ⟨?_,a⟩;unfold bqq;rw[if_neg F,if_pos l]
 have l : ¬(sgD i (val f))<(sgD g (val e)):=by have:=p;omega
 refine Sr λ_ B=>zm rfl (zq rfl rfl (za rfl (zz (B ?_))));refine zy rfl ?_ ?_<;>intro o<;>try simp only[qs] at o
 ·have k:(sgD g (val e))=0:=o
  refine Sr λ_ A=>za rfl (zz (A ?_));refine zr (zr1 rfl rfl ?_);refine ⟨?_,a⟩;unfold bqq;rw[if_neg F,if_neg l,if_pos k]
 have k : ¬(sgD g (val e))=0:=o;have a1:val e≠0:=λq=>k (bax.2 q);have a0:val f≠0:=λq=>by have:=bax (neg:=i).2 q;omega
 refine zkk (X (Sr λ_ z=>zm rfl (zg b rfl (zg d rfl ?_))));refine WL.call hasF220 rfl rfl (dsize_spec g i _ _ e f y x _ (O.q8 a) (M.q8 a) a4 a3 a6 a5 a1 a0) λv w3 Q=>?_;obtain ⟨rfl,h⟩:=Q;have a7:=cmpV_range (val e) y (val f) x;have a:=a.ta h;refine WL.ev (Ev.c1q rfl rfl (mul_small a2 a7)) rfl ?_;refine za rfl (zz (z ?_));refine zr (zr1 rfl rfl ?_);refine ⟨?_,a⟩;unfold bqq;rw[if_neg F,if_neg l,if_neg k]
structure Sh where
  s:SP
  V:Dy
  Q:Dy
  lo:Nat
  hi:Nat
def Sh.zero:Sh:=⟨SP.zero,Dy.zero,Dy.zero,0,0⟩
def ShM(T:TypeId)(w:World)(b:Nat)(S:Sh):Prop:=∃ rv rq,BK w b T [.int .i64 (S.s.na:Int),.int .i64 (S.s.up:Int),.int .i64 (S.s.dn:Int),.int .i64 (S.s.mi:Int),.int .i64 (S.s.pl:Int),.int .i64 (S.s.al:Int),.bool S.V.neg,rv,.int .i64 S.V.e,.bool S.Q.neg,rq,.int .i64 S.Q.e,.float .f64 S.lo,.float .f64 S.hi]/\NU w rv (wd S.V.m)/\NU w rq (wd S.Q.m)
structure Sh.wf(S:Sh):Prop where
  s:S.s.le 1099511627776
  V:S.V.ok
  Q:S.Q.ok
  lo:S.lo<18446744073709551616
  hi:S.hi<18446744073709551616
def Sh.some(S:Sh):Prop:=S.s.na<S.s.al
instance (S:Sh):Decidable S.some:=by unfold Sh.some;exact inferInstance
def SP.add(s t:SP):SP:=⟨s.na+t.na,s.up+t.up,s.dn+t.dn,s.mi+t.mi,s.pl+t.pl,s.al+t.al⟩
def Sh.merge(S U:Sh):Sh:=
  ⟨S.s.add U.s,(yQ S.V U.V).getD Dy.zero,(yQ S.Q U.Q).getD Dy.zero,if U.some/\(¬S.some\/key U.lo<key S.lo) then U.lo else S.lo,if U.some/\(¬S.some\/key S.hi<key U.hi) then U.hi else S.hi⟩
theorem Sh.wf.zero:Sh.zero.wf:=⟨by unfold SP.le;decide,jZ (neg:=false) (n:=0) (e:=0) rfl,jZ (neg:=false) (n:=0) (e:=0) rfl,by decide,by decide⟩
theorem addD_ok{x y d:Dy}(b:x.ok)(a:y.ok)(h:yQ x y = .some d):d.ok:=by
  unfold yQ at h
  split at h
  · cases h;exact a
  split at h
  · cases h;exact b
  split at h
  · cases h
  split at h
  · exact jZ h
  split at h
  · exact jZ h
  · exact jZ h
theorem b6x:Dy.zero.ok:=jZ (neg:=false) (n:=0) (e:=0) rfl
theorem tZ{x:Option Dy}(h : ∀ d,x = .some d->d.ok):(x.getD Dy.zero).ok:=by
  cases hx:x with
  | none=>exact b6x
  | some d=>exact h d hx
theorem notU14{S:Sh}{w:World}{a b:Value}(g:NU w a (wd S.V.m))(f:NU w b (wd S.Q.m)): ∀ c∈[.int .i64 (S.s.na:Int),.int .i64 (S.s.up:Int),.int .i64 (S.s.dn:Int),.int .i64 (S.s.mi:Int),.int .i64 (S.s.pl:Int),.int .i64 (S.s.al:Int),.bool S.V.neg,a,.int .i64 S.V.e,.bool S.Q.neg,b,.int .i64 S.Q.e,.float .f64 S.lo,.float .f64 S.hi],xX c=false:=by
  intro v d
  simp only[List.mem_cons,List.not_mem_nil,or_false] at d
  rcases d with rfl|rfl|rfl|rfl|rfl|rfl|rfl|rfl|rfl|rfl|rfl|rfl|rfl|rfl<;>first|rfl|exact g.notU|exact f.notU
theorem ShM.q8{T:TypeId}{w w':World}{b:Nat}{S:Sh}(h:ShM T w b S)(a:Chg [] w w'):ShM T w' b S:=by
  obtain ⟨d,e,f,i,g⟩:=h
  exact ⟨d,e,f.q8 a,i.q8 a,g.q8 a⟩
theorem ShM.lt{T:TypeId}{w:World}{b:Nat}{S:Sh}(h:ShM T w b S):b<w.heap.size:=by
  obtain ⟨d,e,a,_⟩:=h
  exact a.lt
theorem ShM.other{T T':TypeId}{w w':World}{b c:Nat}{S U:Sh}(h:ShM T w b S)(k:ShM T' w c U)(e:Chg [c] w w')(d:b≠c):ShM T w' b S:=by
  obtain ⟨i,j,l,n,m⟩:=h
  obtain ⟨o,p,a,g,f⟩:=k
  exact ⟨i,j,l.dJ e (by simpa using d),n.q9 a e (notU14 g f),m.q9 a e (notU14 g f)⟩
theorem asj(b:Nat)(S:Sh)(w:World)(q:ShM 91 w b S)(i:S.s.le 1099511627776):Ret Tryz.prog 47 [.pointer (some ⟨b,0,none⟩)] w λu w'=>u = .bool (decide S.some)/\Chg [] w w':=by
 obtain ⟨v,x,e,r,t⟩:=q;obtain ⟨p,o,n,m,l,k⟩:=i;have a:=crf w;refine zE1 Tryz.func47 rfl ?_;refine Sr λ_ h=>za rfl (zz (h (zc λ_ g=>?_)));refine CW.jQ dZ oR λj f d=>?_;have a:=a.ta d;have e:=e.q8 d;refine ym rfl (yP rfl (yf rfl (yf rfl ?_)));refine WS.ev (Ev.load rfl rfl (e.at_ rfl)) rfl ?_;refine ym rfl (yP rfl (yf rfl (yf rfl ?_)));refine WS.ev (Ev.load rfl rfl (e.at_ rfl)) rfl ?_;refine WS.ev (Ev.gtr rfl rfl) rfl ?_;refine ya rfl ?_;refine WS.nil (f _ _ ?_);refine g ?_;refine zr (zr1 rfl rfl ?_);refine ⟨congrArg Value.bool (decide_eq_decide.2 ?_),a⟩;unfold Sh.some;omega
theorem Count_spec_(b:Nat)(S:Sh)(w:World)(n:ShM 91 w b S)(e:S.s.le 1099511627776):Ret Tryz.prog 43 [.pointer (some ⟨b,0,none⟩)] w λu w'=>u = .int .i64 (S.s.al:Int)/\Chg [] w w':=by
 obtain ⟨q,r,m,o,p⟩:=n;obtain ⟨l,k,j,i,h,g⟩:=e;have f:=crf w;refine zE1 Tryz.func43 rfl ?_;refine Sr λ_ d=>za rfl (zz (d (Sr λ_ a=>zm rfl (zP rfl (zf rfl (zf rfl (zl m rfl rfl (za rfl (zz (a ?_))))))))));refine zr (zr1 rfl rfl ?_);exact ⟨rfl,f⟩
def Sh.fin(S:Sh):Int:=(S.s.al:Int)-S.s.na-S.s.up-S.s.dn
def Sh.pln(S:Sh):Int:=S.fin-S.s.mi-S.s.pl
theorem akx(b:Nat)(S:Sh)(w:World)(q:ShM 91 w b S)(i:S.s.le 1099511627776):Ret Tryz.prog 78 [.pointer (some ⟨b,0,none⟩)] w λu w'=>u = .int .i64 S.fin/\Chg [] w w':=by
 obtain ⟨v,x,d,r,t⟩:=q;obtain ⟨p,o,n,m,l,k⟩:=i;have a:=crf w;refine zE1 Tryz.func78 rfl ?_;refine Sr λ_ h=>za rfl (zz (h (zc λ_ g=>?_)));refine CW.jQ dZ oR λj f e=>?_;have a:=a.ta e;have d:=d.q8 e;refine ym rfl (yP rfl (yf rfl (yf rfl ?_)));refine WS.ev (Ev.load rfl rfl (d.at_ rfl)) rfl ?_;refine ym rfl (yP rfl (yf rfl (yf rfl ?_)));refine WS.ev (Ev.load rfl rfl (d.at_ rfl)) rfl ?_;refine WS.ev (Ev.dX rfl rfl oO) rfl ?_;refine ym rfl (yP rfl (yf rfl (yf rfl ?_)));refine WS.ev (Ev.load rfl rfl (d.at_ rfl)) rfl ?_;refine WS.ev (Ev.dX rfl rfl oO) rfl ?_;refine ym rfl (yP rfl (yf rfl (yf rfl ?_)));refine WS.ev (Ev.load rfl rfl (d.at_ rfl)) rfl ?_;refine WS.ev (Ev.dX rfl rfl oO) rfl ?_;refine ya rfl ?_;refine WS.nil (f _ _ ?_);refine g ?_;refine zr (zr1 rfl rfl ?_);exact ⟨rfl,a⟩
theorem dmx(b:Nat)(S:Sh)(w:World)(a:ShM 91 w b S)(x:S.s.le 1099511627776):Ret Tryz.prog 149 [.pointer (some ⟨b,0,none⟩)] w λu w'=>u = .int .i64 S.pln/\Chg [] w w':=by
 obtain ⟨z,A,j,h,i⟩:=a;obtain ⟨t,r,q,p,o,n⟩:=x;have d:=crf w;refine zE1 Tryz.func149 rfl ?_;refine Sr λ_ m=>za rfl (zz (m (zc λ_ l=>?_)));refine CW.cQ 15 rfl dZ λB k a e=>?_;have d:=d.ta e;have j:=j.q8 e;have h:=h.q8 e;have i:=i.q8 e;have f:=j;refine wh 0 rfl a (eM rfl) (wh 2 rfl a (eM rfl) (wh 3 rfl a (eP rfl) (wh 4 rfl a (eF rfl) (wh 5 rfl a (eF rfl) (wh 6 rfl a (λ_ g=>Ev.load rfl rfl ((f.q8 g).at_ rfl)) (wh 8 rfl a (eM rfl) (wh 9 rfl a (eP rfl) (wh 10 rfl a (eF rfl) (wh 11 rfl a (eF rfl) (wh 12 rfl a (λ_ g=>Ev.load rfl rfl ((f.q8 g).at_ rfl)) ?_))))))))));refine WH.k7 1 rfl oR hasF78 rfl rfl (akx b S _ ⟨z,A,j,h,i⟩ ⟨t,r,q,p,o,n⟩) λv D C=>?_;obtain ⟨rfl,y⟩:=C;unfold Sh.fin;have d:=d.ta y;have a:=a.trans y;refine ⟨a,?_⟩;refine wh 7 rfl a (λ_ _=>Ev.dX rfl rfl oO) (wh 13 rfl a (λ_ _=>Ev.dX rfl rfl oO) (wh 14 rfl a (eA rfl) ?_));refine WH.done oR (k _ _ _ ?_);refine l ?_;refine zr (zr1 rfl rfl ?_);exact ⟨rfl,d⟩
theorem dex(w:World):Ret Tryz.prog 21 [] w λu w'=>(∃ b,u = .pointer (some ⟨b,0,none⟩)/\ShM 91 w' b Sh.zero/\w.heap.size<=b)/\Chg [] w w':=by
 have a:=crf w;refine zE0 Tryz.func21 rfl ?_;refine Sr λ_ f=>za rfl (zz (f (Sr λ_ e=>?_)));refine WL.ev (Ev.build (vs:=_) (cs:=[_,_,_,_,_,_,_,_,_,_,_,_,_,_]) rfl rfl) rfl ?_;refine zBh rfl rfl rfl a λk j g i h d a=>?_;refine za rfl (zz (e ?_));refine zr (zr1 rfl rfl ?_);refine ⟨⟨k,rfl,⟨_,_,g,?_,?_⟩,by omega⟩,a⟩
 · rw[show Sh.zero.V.m=0 from rfl,fX];exact NU.nil
 rw[show Sh.zero.Q.m=0 from rfl,fX];exact NU.nil
theorem jJ{f:Dy->Dy->Option Dy}{x y:Dy}(b:x.ok)(a:y.ok):bix f (cX x.neg (val (wd x.m)) x.e) (cX y.neg (val (wd y.m)) y.e)=f x y:=by
  rw[g7,g7,nQ b,nQ a];rfl
theorem DR.cells{w:World}{u:Value}{x:Option Dy}(h:DR w u x): ∃ r k,u = .tuple [.agg [.bool (x.getD Dy.zero).neg,r,.int .i64 (x.getD Dy.zero).e].toArray,.int .i64 k].toArray/\NU w r (wd (x.getD Dy.zero).m):=by
  rcases h with ⟨r,d,rfl,rfl,a⟩|⟨rfl,rfl⟩
  · exact ⟨r,0,rfl,a⟩
  · exact ⟨_,2,rfl,by rw[show (Option.none.getD Dy.zero).m=0 from rfl,fX];exact NU.nil⟩
theorem bqx{a b:Int}: c4x a b<0↔a<b:=by
  unfold c4x;split
  · omega
  · split<;>omega
theorem afx{a b:Int}: 0<c4x a b↔b<a:=by
  unfold c4x;split
  · omega
  · split<;>omega
theorem GW.keepI{w w':World}{b:Nat}{T:TypeId}{x:Int}{l:List Value}(a:GW w)(e:BK w b T (.int .i64 x::l))(d:Chg [b] w w'):GW w':=λi hi=>by
  refine d.cell (a i hi) λhm=>?_
  have hm2 : 6 = b:=by simpa using hm
  have h0:=a 0 oD
  rw[hm2,e.at_ (i:=0) rfl] at h0
  cases h0
theorem bX{d:Dy}(h:d.ok): -9223372036854775808<=d.e/\d.e<=9223372036854775807:=by have:=h.e;omega
theorem bsx(b c:Nat)(S U:Sh)(w:World)(d:ShM 91 w b S)(e6:S.wf)(hU:ShM 91 w c U)(h0:U.wf)(m9:b≠c)(hg:GW w):Ret Tryz.prog 31 [.pointer (some ⟨b,0,none⟩),.pointer (some ⟨c,0,none⟩)] w λu w'=>(1099511627776<S.s.al+U.s.al/\u = .int .i64 2/\ShM 91 w' b S/\Chg [b] w w')\/(S.s.al+U.s.al<=1099511627776/\u = .int .i64 0/\ShM 91 w' b (S.merge U)/\Chg [b] w w'):=by
 obtain ⟨rv,rq,i,j,h⟩:=d;have f7:=i;have k3:=e6;obtain ⟨⟨f3,f2,f1,f0,e9,e8⟩,a9,b0,k5,l1⟩:=e6;obtain ⟨sv,sq,f,n,k⟩:=hU;obtain ⟨⟨h6,h5,h4,h3,h2,h1⟩,a4,a5,k4,l0⟩:=h0;have g:Chg [b] w w:=Chg.refl _ _;refine zE2 Tryz.func31 rfl ?_;refine Sr λ_ g9=>za rfl (zz (g9 (zc λ_ g5=>zc λ_ g4=>?_)));refine CW.jQ dZ oR λm8 g1 a=>?_;have g:=g.ta a;have i:=i.q8 a;have f:=f.q8 a;have j:=j.q8 a;have h:=h.q8 a;have n:=n.q8 a;have k:=k.q8 a;refine ym rfl (yP rfl (yf rfl (yf rfl ?_)));refine WS.ev (Ev.load rfl rfl (i.at_ rfl)) rfl ?_;refine ym rfl (yP rfl (yf rfl (yf rfl ?_)));refine WS.ev (Ev.load rfl rfl (f.at_ rfl)) rfl ?_;refine WS.ev (Ev.kQ rfl rfl oO) rfl ?_;refine WS.ev (Ev.gtr rfl rfl) rfl ?_;refine WS.nil (g1 _ _ ?_);refine g4 ?_;refine zy rfl ?_ ?_<;>intro b8<;>try simp only[qs] at b8
 ·have f6:1099511627776<S.s.al+U.s.al:=by have:=b8;omega
  refine Sr λ_ g3=>za rfl (zz (g3 ?_));refine zr (zr1 rfl rfl ?_);exact .inl ⟨f6,rfl,⟨_,_,i,j,h⟩,g⟩
 have e7:S.s.al+U.s.al<=1099511627776:=by have:=b8;omega
 refine zkk (g5 ?_);refine CW.anj (λD s' w'=>D=[]/\∃ B b3:Nat,B=(if U.some/\(¬S.some\/key U.lo<key S.lo) then U.lo else S.lo)/\b3=(if U.some/\(¬S.some\/key S.hi<key U.hi) then U.hi else S.hi)/\BK w' b 91 [.int .i64 (S.s.na:Int),.int .i64 (S.s.up:Int),.int .i64 (S.s.dn:Int),.int .i64 (S.s.mi:Int),.int .i64 (S.s.pl:Int),.int .i64 (S.s.al:Int),.bool S.V.neg,rv,.int .i64 S.V.e,.bool S.Q.neg,rq,.int .i64 S.Q.e,.float .f64 B,.float .f64 b3]/\NU w' rv (wd S.V.m)/\NU w' rq (wd S.Q.m)/\BK w' c 91 [.int .i64 (U.s.na:Int),.int .i64 (U.s.up:Int),.int .i64 (U.s.dn:Int),.int .i64 (U.s.mi:Int),.int .i64 (U.s.pl:Int),.int .i64 (U.s.al:Int),.bool U.V.neg,sv,.int .i64 U.V.e,.bool U.Q.neg,sq,.int .i64 U.Q.e,.float .f64 U.lo,.float .f64 U.hi]/\NU w' sv (wd U.V.m)/\NU w' sq (wd U.Q.m)/\Chg [b] w w'/\j0 [(0,.pointer (some ⟨b,0,none⟩)),(1,.pointer (some ⟨c,0,none⟩))] s') ?_ ?_
 ·refine Sr λ_ g2=>zm rfl ?_;refine WL.call hasF47 rfl rfl (asj c U _ ⟨sv,sq,f,n,k⟩ ⟨h6,h5,h4,h3,h2,h1⟩) λv w1 h'=>?_;obtain ⟨rfl,C⟩:=h';have g:=g.ta C;have i:=i.q8 C;have f:=f.q8 C;have j:=j.q8 C;have h:=h.q8 C;have n:=n.q8 C;have k:=k.q8 C;refine zz (g2 ?_);refine zy rfl ?_ ?_<;>intro b7<;>try simp only[qs] at b7
  ·have F:U.some:=by simpa using b7
   refine CW.anj (λD s' w'=>D=[]/\∃ B:Nat,B=(if U.some/\(¬S.some\/key U.lo<key S.lo) then U.lo else S.lo)/\BK w' b 91 [.int .i64 (S.s.na:Int),.int .i64 (S.s.up:Int),.int .i64 (S.s.dn:Int),.int .i64 (S.s.mi:Int),.int .i64 (S.s.pl:Int),.int .i64 (S.s.al:Int),.bool S.V.neg,rv,.int .i64 S.V.e,.bool S.Q.neg,rq,.int .i64 S.Q.e,.float .f64 B,.float .f64 S.hi]/\NU w' rv (wd S.V.m)/\NU w' rq (wd S.Q.m)/\BK w' c 91 [.int .i64 (U.s.na:Int),.int .i64 (U.s.up:Int),.int .i64 (U.s.dn:Int),.int .i64 (U.s.mi:Int),.int .i64 (U.s.pl:Int),.int .i64 (U.s.al:Int),.bool U.V.neg,sv,.int .i64 U.V.e,.bool U.Q.neg,sq,.int .i64 U.Q.e,.float .f64 U.lo,.float .f64 U.hi]/\NU w' sv (wd U.V.m)/\NU w' sq (wd U.Q.m)/\Chg [b] w w'/\j0 [(0,.pointer (some ⟨b,0,none⟩)),(1,.pointer (some ⟨c,0,none⟩))] s') ?_ ?_
   ·refine CW.azx 34 (decide (¬S.some\/key U.lo<key S.lo)) ?_ ?_
    ·intro r;refine CW.cQ 15 rfl dZ λk2 a8 d a=>?_;have r:=r.ta a;have i:=i.q8 a;have f:=f.q8 a;have j:=j.q8 a;have h:=h.q8 a;have t:=i;have y:=f;refine wh 0 rfl d (eM rfl) ?_;refine WH.k7 1 rfl oR hasF47 rfl rfl (asj b S _ ⟨rv,rq,i,j,h⟩ ⟨f3,f2,f1,f0,e9,e8⟩) λv w2 h'=>?_;obtain ⟨rfl,C⟩:=h';have r:=r.ta C;have d:=d.trans C;refine ⟨d,?_⟩
     by_cases hsm:S.some
     ·rw[show decide (Sh.some S)=true from decide_eq_true hsm];refine wh 2 rfl d (λ_ _=>Ev.not rfl) (wh 3 rfl d (eM rfl) (wg 4 rfl rfl rfl rfl rfl d (eM rfl) (wg 5 rfl rfl rfl rfl rfl d (eP rfl) (wg 6 rfl rfl rfl rfl rfl d (eF rfl) (wg 7 rfl rfl rfl rfl rfl d (λ_ o=>Ev.load rfl rfl ((y.q8 o).at_ rfl)) (wg 8 rfl rfl rfl rfl rfl d (eM rfl) (wg 9 rfl rfl rfl rfl rfl d (eP rfl) (wg 10 rfl rfl rfl rfl rfl d (eF rfl) (wg 11 rfl rfl rfl rfl rfl d (λ_ o=>Ev.load rfl rfl ((t.q8 o).at_ rfl)) ?_)))))))));refine WH.rX 12 rfl oR rfl rfl rfl rfl hasF97 rfl rfl (afj U.lo S.lo oO oO _) λv w3 h'=>?_;obtain ⟨rfl,rfl⟩:=h';refine ⟨d,?_⟩;refine wg 13 rfl rfl rfl rfl rfl d (λ_ _=>Ev.lss rfl rfl) (wh 14 rfl d (λ_ _=>Ev.aox rfl rfl rfl) ?_);refine WH.done oR (a8 _ _ _ ?_);refine ⟨rfl,r,j0.g8 rfl ?_ ?_⟩
      ·first|exact (decide_eq_true (.inl hsm)).symm|exact decide_eq_decide.2 (by rw[bqx];exact ⟨.inr,λq=>q.resolve_left (λz=>z hsm)⟩)
      exact SMg
     rw[show decide (Sh.some S)=false from decide_eq_false hsm];refine wh 2 rfl d (λ_ _=>Ev.not rfl) (wh 3 rfl d (eM rfl) (wp 4 rfl rfl rfl rfl rfl d (wp 5 rfl rfl rfl rfl rfl d (wp 6 rfl rfl rfl rfl rfl d (wp 7 rfl rfl rfl rfl rfl d (wp 8 rfl rfl rfl rfl rfl d (wp 9 rfl rfl rfl rfl rfl d (wp 10 rfl rfl rfl rfl rfl d (wp 11 rfl rfl rfl rfl rfl d ?_)))))))));refine WH.a0x 12 rfl oR rfl rfl rfl rfl d rfl ?_;refine wp 13 rfl rfl rfl rfl rfl d (wh 14 rfl d (λ_ _=>Ev.aeq rfl rfl rfl) ?_);refine WH.done oR (a8 _ _ _ ?_);refine ⟨rfl,r,j0.g8 rfl ?_ ?_⟩
     ·first|exact (decide_eq_true (.inl hsm)).symm|exact decide_eq_decide.2 (by rw[bqx];exact ⟨.inr,λq=>q.resolve_left (λz=>z hsm)⟩)
     exact SMg
    intro wM r;have g:=g.ta r;have i:=i.q8 r;have f:=f.q8 r;have j:=j.q8 r;have h:=h.q8 r;have n:=n.q8 r;have k:=k.q8 r;refine zy rfl ?_ ?_<;>intro b6<;>try simp only[qs] at b6
    ·have hq : ¬S.some\/key U.lo<key S.lo:=by simpa using b6
     refine zS λ_ d5=>zm rfl (zm rfl (zP rfl (zf rfl (zl f rfl rfl (zP rfl (zf rfl ?_))))));refine WL.bJ rfl rfl o1 i oS rfl λm2 x Z=>?_;(try simp only[qt] at x);have g:=g.s1 Z;have f:=f.kq Z;have j:=j.q9 i Z an;have h:=h.q9 i Z an;have n:=n.q9 i Z an;have k:=k.q9 i Z an;have i:=x;refine zz (d5 ?_);exact ⟨rfl,U.lo,(if_pos ⟨F,hq⟩).symm,i,j,h,f,n,k,g,(by first|((repeat (first|exact j0.refl|refine j0.oZ (by rfl) ?_));done)|((repeat (first|exact j0.nil|refine j0.cons rfl ?_));done))⟩
    have hq : ¬(¬S.some\/key U.lo<key S.lo):=by simpa using b6
    refine zkk ?_;exact ⟨rfl,S.lo,(if_neg (λq=>hq q.2)).symm,i,j,h,f,n,k,g,(by first|((repeat (first|exact j0.refl|refine j0.oZ (by rfl) ?_));done)|((repeat (first|exact j0.nil|refine j0.cons rfl ?_));done))⟩
   rintro _ s' wJ ⟨rfl,B,a6,i,j,h,f,n,k,g,a3⟩;refine CW.sub a3 ?_;refine CW.azx 56 (decide (¬S.some\/key S.hi<key U.hi)) ?_ ?_
   ·intro r;refine CW.cQ 15 rfl dZ λk1 a7 d a=>?_;have r:=r.ta a;have i:=i.q8 a;have f:=f.q8 a;have j:=j.q8 a;have h:=h.q8 a;have t:=i;have y:=f;refine wh 0 rfl d (eM rfl) ?_;refine WH.k7 1 rfl oR hasF47 rfl rfl (asj b ⟨S.s,S.V,S.Q,B,S.hi⟩ _ ⟨rv,rq,i,j,h⟩ ⟨f3,f2,f1,f0,e9,e8⟩) λv w4 h'=>?_;obtain ⟨rfl,C⟩:=h';have r:=r.ta C;have d:=d.trans C;refine ⟨d,?_⟩
    by_cases hsm:S.some
    ·rw[show decide (Sh.some ⟨S.s,S.V,S.Q,B,S.hi⟩)=true from decide_eq_true hsm];refine wh 2 rfl d (λ_ _=>Ev.not rfl) (wh 3 rfl d (eM rfl) (wg 4 rfl rfl rfl rfl rfl d (eM rfl) (wg 5 rfl rfl rfl rfl rfl d (eP rfl) (wg 6 rfl rfl rfl rfl rfl d (eF rfl) (wg 7 rfl rfl rfl rfl rfl d (λ_ o=>Ev.load rfl rfl ((y.q8 o).at_ rfl)) (wg 8 rfl rfl rfl rfl rfl d (eM rfl) (wg 9 rfl rfl rfl rfl rfl d (eP rfl) (wg 10 rfl rfl rfl rfl rfl d (eF rfl) (wg 11 rfl rfl rfl rfl rfl d (λ_ o=>Ev.load rfl rfl ((t.q8 o).at_ rfl)) ?_)))))))));refine WH.rX 12 rfl oR rfl rfl rfl rfl hasF97 rfl rfl (afj U.hi S.hi oO oO _) λv w5 h'=>?_;obtain ⟨rfl,rfl⟩:=h';refine ⟨d,?_⟩;refine wg 13 rfl rfl rfl rfl rfl d (λ_ _=>Ev.gtr rfl rfl) (wh 14 rfl d (λ_ _=>Ev.aox rfl rfl rfl) ?_);refine WH.done oR (a7 _ _ _ ?_);refine ⟨rfl,r,j0.g8 rfl ?_ ?_⟩
     ·first|exact (decide_eq_true (.inl hsm)).symm|exact decide_eq_decide.2 (by rw[afx];exact ⟨.inr,λq=>q.resolve_left (λz=>z hsm)⟩)
     exact SMg
    rw[show decide (Sh.some ⟨S.s,S.V,S.Q,B,S.hi⟩)=false from decide_eq_false hsm];refine wh 2 rfl d (λ_ _=>Ev.not rfl) (wh 3 rfl d (eM rfl) (wp 4 rfl rfl rfl rfl rfl d (wp 5 rfl rfl rfl rfl rfl d (wp 6 rfl rfl rfl rfl rfl d (wp 7 rfl rfl rfl rfl rfl d (wp 8 rfl rfl rfl rfl rfl d (wp 9 rfl rfl rfl rfl rfl d (wp 10 rfl rfl rfl rfl rfl d (wp 11 rfl rfl rfl rfl rfl d ?_)))))))));refine WH.a0x 12 rfl oR rfl rfl rfl rfl d rfl ?_;refine wp 13 rfl rfl rfl rfl rfl d (wh 14 rfl d (λ_ _=>Ev.aeq rfl rfl rfl) ?_);refine WH.done oR (a7 _ _ _ ?_);refine ⟨rfl,r,j0.g8 rfl ?_ ?_⟩
    ·first|exact (decide_eq_true (.inl hsm)).symm|exact decide_eq_decide.2 (by rw[afx];exact ⟨.inr,λq=>q.resolve_left (λz=>z hsm)⟩)
    exact SMg
   intro wM r;have g:=g.ta r;have i:=i.q8 r;have f:=f.q8 r;have j:=j.q8 r;have h:=h.q8 r;have n:=n.q8 r;have k:=k.q8 r;refine zy rfl ?_ ?_<;>intro b4<;>try simp only[qs] at b4
   ·have hq : ¬S.some\/key S.hi<key U.hi:=by simpa using b4
    refine zS λ_ d4=>zm rfl (zm rfl (zP rfl (zf rfl (zl f rfl rfl (zP rfl (zf rfl ?_))))));refine WL.bJ rfl rfl o1 i oS rfl λm1 x Y=>?_;(try simp only[qt] at x);have g:=g.s1 Y;have f:=f.kq Y;have j:=j.q9 i Y an;have h:=h.q9 i Y an;have n:=n.q9 i Y an;have k:=k.q9 i Y an;have i:=x;refine zz (d4 ?_);exact ⟨rfl,B,U.hi,a6,(if_pos ⟨F,hq⟩).symm,i,j,h,f,n,k,g,(by first|((repeat (first|exact j0.refl|refine j0.oZ (by rfl) ?_));done)|((repeat (first|exact j0.nil|refine j0.cons rfl ?_));done))⟩
   have hq : ¬(¬S.some\/key S.hi<key U.hi):=by simpa using b4
   refine zkk ?_;exact ⟨rfl,B,S.hi,a6,(if_neg (λq=>hq q.2)).symm,i,j,h,f,n,k,g,(by first|((repeat (first|exact j0.refl|refine j0.oZ (by rfl) ?_));done)|((repeat (first|exact j0.nil|refine j0.cons rfl ?_));done))⟩
  have F : ¬U.some:=by simpa using b7
  refine zkk ?_;exact ⟨rfl,S.lo,S.hi,(if_neg (λq=>F q.1)).symm,(if_neg (λq=>F q.1)).symm,i,j,h,f,n,k,g,(by first|((repeat (first|exact j0.refl|refine j0.oZ (by rfl) ?_));done)|((repeat (first|exact j0.nil|refine j0.cons rfl ?_));done))⟩
 rintro _ s' wJ ⟨rfl,B,b3,a6,h9,i,j,h,f,n,k,g,a3⟩;refine CW.sub a3 ?_;refine Sr λ_ e5=>zm rfl (zP rfl (zf rfl ?_));refine WL.ev (Ev.fZ (cs:=[.int .i64 (U.s.na:Int),.int .i64 (U.s.up:Int),.int .i64 (U.s.dn:Int),.int .i64 (U.s.mi:Int),.int .i64 (U.s.pl:Int),.int .i64 (U.s.al:Int)]) rfl rfl f rfl rfl) rfl ?_;refine WL.iZ (l:=[.int .i64 0,.int .i64 0,.int .i64 0,.int .i64 0,.int .i64 0,.int .i64 0]) rfl rfl λb5 m3 p T f5=>?_;have f4:=Nat.le_trans g.size f5;have g:=g.ta T;have j:=j.q8 T;have h:=h.q8 T;have n:=n.q8 T;have k:=k.q8 T;have h8:b≠b5:=by have:=i.lt;omega
 have i:=i.q8 T;have h7:c≠b5:=by have:=f.lt;omega
 have f:=f.q8 T;refine zss rfl rfl ao p rfl λm0 b1 O=>?_;(try simp only[qt] at b1);have g:=g.s1 O;have i:=i.kq O;have f:=f.kq O;have j:=j.q9 p O an;have h:=h.q9 p O an;have n:=n.q9 p O an;have k:=k.q9 p O an;have p:=b1;refine zz (e5 (zc λ_ e4=>?_));refine CW.gJ 11 12 rfl dZ λi9 d3 d a=>?_;have g:=g.ta a;have i:=i.q8 a;have f:=f.q8 a;have p:=p.k0 a;have j:=j.q8 a;have h:=h.q8 a;have n:=n.q8 a;have k:=k.q8 a;have t:=i;have y:=f;have A:=p;refine wk 0 rfl d (eM rfl) (wk 1 rfl d (eP rfl) (wk 2 rfl d (eF rfl) (wk 3 rfl d (eF rfl) (wk 4 rfl d (λ_ o=>Ev.load rfl rfl ((t.q8 o).at_ rfl)) (wk 5 rfl d (eF rfl) (wk 6 rfl d (λ_ o=>Ev.load rfl rfl ((A.q8 o).at_ rfl)) (wk 7 rfl d (λ_ _=>Ev.kQ rfl rfl oO) (wt 8 rfl (λ_=>d) (λ_=>Ev.nilPtr rfl) (wt 9 rfl (λ_=>d) (λ_=>Ev.fieldAddr rfl) (wk 10 rfl d (eF rfl) ?_))))))))));refine WK.bJ 11 rfl oR oR rfl rfl o1 i oS rfl λl9 x M=>?_;(try simp only[qt] at x);have g:=g.s1 M;have f:=f.kq M;have p:=p.kq M;have j:=j.q9 i M an;have h:=h.q9 i M an;have n:=n.q9 i M an;have k:=k.q9 i M an;have i:=x;refine WK.done oR (d3 _ _ _ ?_);refine e4 (zc λ_ e3=>?_);refine CW.gJ 11 12 rfl dZ λi8 d2 d a=>?_;have g:=g.ta a;have i:=i.q8 a;have f:=f.q8 a;have p:=p.k0 a;have j:=j.q8 a;have h:=h.q8 a;have n:=n.q8 a;have k:=k.q8 a;have t:=i;have y:=f;have A:=p;refine wk 0 rfl d (eM rfl) (wk 1 rfl d (eP rfl) (wk 2 rfl d (eF rfl) (wk 3 rfl d (eF rfl) (wk 4 rfl d (λ_ o=>Ev.load rfl rfl ((t.q8 o).at_ rfl)) (wk 5 rfl d (eF rfl) (wk 6 rfl d (λ_ o=>Ev.load rfl rfl ((A.q8 o).at_ rfl)) (wk 7 rfl d (λ_ _=>Ev.kQ rfl rfl oO) (wt 8 rfl (λ_=>d) (λ_=>Ev.nilPtr rfl) (wt 9 rfl (λ_=>d) (λ_=>Ev.fieldAddr rfl) (wk 10 rfl d (eF rfl) ?_))))))))));refine WK.bJ 11 rfl oR oR rfl rfl o1 i oS rfl λl8 x J=>?_;(try simp only[qt] at x);have g:=g.s1 J;have f:=f.kq J;have p:=p.kq J;have j:=j.q9 i J an;have h:=h.q9 i J an;have n:=n.q9 i J an;have k:=k.q9 i J an;have i:=x;refine WK.done oR (d2 _ _ _ ?_);refine e3 (zc λ_ e2=>?_);refine CW.gJ 11 12 rfl dZ λi7 d1 d a=>?_;have g:=g.ta a;have i:=i.q8 a;have f:=f.q8 a;have p:=p.k0 a;have j:=j.q8 a;have h:=h.q8 a;have n:=n.q8 a;have k:=k.q8 a;have t:=i;have y:=f;have A:=p;refine wk 0 rfl d (eM rfl) (wk 1 rfl d (eP rfl) (wk 2 rfl d (eF rfl) (wk 3 rfl d (eF rfl) (wk 4 rfl d (λ_ o=>Ev.load rfl rfl ((t.q8 o).at_ rfl)) (wk 5 rfl d (eF rfl) (wk 6 rfl d (λ_ o=>Ev.load rfl rfl ((A.q8 o).at_ rfl)) (wk 7 rfl d (λ_ _=>Ev.kQ rfl rfl oO) (wt 8 rfl (λ_=>d) (λ_=>Ev.nilPtr rfl) (wt 9 rfl (λ_=>d) (λ_=>Ev.fieldAddr rfl) (wk 10 rfl d (eF rfl) ?_))))))))));refine WK.bJ 11 rfl oR oR rfl rfl o1 i oS rfl λl7 x I=>?_;(try simp only[qt] at x);have g:=g.s1 I;have f:=f.kq I;have p:=p.kq I;have j:=j.q9 i I an;have h:=h.q9 i I an;have n:=n.q9 i I an;have k:=k.q9 i I an;have i:=x;refine WK.done oR (d1 _ _ _ ?_);refine e2 (zc λ_ e1=>?_);refine CW.gJ 11 12 rfl dZ λi6 d0 d a=>?_;have g:=g.ta a;have i:=i.q8 a;have f:=f.q8 a;have p:=p.k0 a;have j:=j.q8 a;have h:=h.q8 a;have n:=n.q8 a;have k:=k.q8 a;have t:=i;have y:=f;have A:=p;refine wk 0 rfl d (eM rfl) (wk 1 rfl d (eP rfl) (wk 2 rfl d (eF rfl) (wk 3 rfl d (eF rfl) (wk 4 rfl d (λ_ o=>Ev.load rfl rfl ((t.q8 o).at_ rfl)) (wk 5 rfl d (eF rfl) (wk 6 rfl d (λ_ o=>Ev.load rfl rfl ((A.q8 o).at_ rfl)) (wk 7 rfl d (λ_ _=>Ev.kQ rfl rfl oO) (wt 8 rfl (λ_=>d) (λ_=>Ev.nilPtr rfl) (wt 9 rfl (λ_=>d) (λ_=>Ev.fieldAddr rfl) (wk 10 rfl d (eF rfl) ?_))))))))));refine WK.bJ 11 rfl oR oR rfl rfl o1 i oS rfl λl6 x H=>?_;(try simp only[qt] at x);have g:=g.s1 H;have f:=f.kq H;have p:=p.kq H;have j:=j.q9 i H an;have h:=h.q9 i H an;have n:=n.q9 i H an;have k:=k.q9 i H an;have i:=x;refine WK.done oR (d0 _ _ _ ?_);refine e1 (zc λ_ e0=>?_);refine CW.gJ 11 12 rfl dZ λi5 c9 d a=>?_;have g:=g.ta a;have i:=i.q8 a;have f:=f.q8 a;have p:=p.k0 a;have j:=j.q8 a;have h:=h.q8 a;have n:=n.q8 a;have k:=k.q8 a;have t:=i
 have y:=f;have A:=p;refine wk 0 rfl d (eM rfl) (wk 1 rfl d (eP rfl) (wk 2 rfl d (eF rfl) (wk 3 rfl d (eF rfl) (wk 4 rfl d (λ_ o=>Ev.load rfl rfl ((t.q8 o).at_ rfl)) (wk 5 rfl d (eF rfl) (wk 6 rfl d (λ_ o=>Ev.load rfl rfl ((A.q8 o).at_ rfl)) (wk 7 rfl d (λ_ _=>Ev.kQ rfl rfl oO) (wt 8 rfl (λ_=>d) (λ_=>Ev.nilPtr rfl) (wt 9 rfl (λ_=>d) (λ_=>Ev.fieldAddr rfl) (wk 10 rfl d (eF rfl) ?_))))))))));refine WK.bJ 11 rfl oR oR rfl rfl o1 i oS rfl λl5 x G=>?_;(try simp only[qt] at x);have g:=g.s1 G;have f:=f.kq G;have p:=p.kq G;have j:=j.q9 i G an;have h:=h.q9 i G an;have n:=n.q9 i G an;have k:=k.q9 i G an;have i:=x;refine WK.done oR (c9 _ _ _ ?_);refine e0 (zc λ_ d9=>?_);refine CW.gJ 11 12 rfl dZ λi4 c8 d a=>?_;have g:=g.ta a;have i:=i.q8 a;have f:=f.q8 a;have p:=p.k0 a;have j:=j.q8 a;have h:=h.q8 a;have n:=n.q8 a;have k:=k.q8 a;have t:=i;have y:=f;have A:=p;refine wk 0 rfl d (eM rfl) (wk 1 rfl d (eP rfl) (wk 2 rfl d (eF rfl) (wk 3 rfl d (eF rfl) (wk 4 rfl d (λ_ o=>Ev.load rfl rfl ((t.q8 o).at_ rfl)) (wk 5 rfl d (eF rfl) (wk 6 rfl d (λ_ o=>Ev.load rfl rfl ((A.q8 o).at_ rfl)) (wk 7 rfl d (λ_ _=>Ev.kQ rfl rfl oO) (wt 8 rfl (λ_=>d) (λ_=>Ev.nilPtr rfl) (wt 9 rfl (λ_=>d) (λ_=>Ev.fieldAddr rfl) (wk 10 rfl d (eF rfl) ?_))))))))));refine WK.bJ 11 rfl oR oR rfl rfl o1 i oS rfl λl4 x X=>?_;(try simp only[qt] at x);have g:=g.s1 X;have f:=f.kq X;have j:=j.q9 i X an;have h:=h.q9 i X an;have n:=n.q9 i X an;have k:=k.q9 i X an;have i:=x;refine WK.done oR (c8 _ _ _ ?_);refine d9 (zc λ_ d8=>?_);refine CW.gJ 15 16 rfl dZ λi3 c7 d a=>?_;have g:=g.ta a;have i:=i.q8 a;have f:=f.q8 a;have j:=j.q8 a;have h:=h.q8 a;have n:=n.q8 a;have k:=k.q8 a;have t:=i;have y:=f;refine wk 0 rfl d (eM rfl) (wk 1 rfl d (eM rfl) (wk 2 rfl d (eP rfl) (wk 3 rfl d (eF rfl) (wk 4 rfl d (λ_ o=>Ev.fZ rfl rfl (t.q8 o) rfl rfl) ?_))))
 try simp only[oL]
 refine wk 5 rfl d (eM rfl) (wk 6 rfl d (eP rfl) (wk 7 rfl d (eF rfl) (wk 8 rfl d (λ_ o=>Ev.fZ rfl rfl (y.q8 o) rfl rfl) ?_)))
 try simp only[oL]
 refine WK.k7 9 rfl oR hasF98 rfl rfl (bqj _ _ _ _ _ _ _ _ _ j n (hg.keepI f7 g) (bX a9) (bX a4)) λv w6 h'=>?_;obtain ⟨hD,C⟩:=h';rw[jJ a9 a4] at hD;obtain ⟨g0,m7,rfl,a0⟩:=hD.cells;have g:=g.ta C;have i:=i.q8 C;have f:=f.q8 C;have h:=h.q8 C;have k:=k.q8 C;have d:=d.trans C;refine ⟨d,?_⟩;refine wk 10 rfl d (eM rfl) (wk 11 rfl d (eX rfl rfl) (wt 12 rfl (λ_=>d) (λ_=>Ev.extract rfl rfl) (wt 13 rfl (λ_=>d) (λ_=>Ev.nilPtr rfl) (wk 14 rfl d (eF rfl) ?_))));refine WK.nZ 15 rfl oR oR rfl rfl rfl ao i oS rfl λi1 x R=>?_;(try simp only[qt] at x);have g:=g.s1 R;have f:=f.kq R;have h:=h.q9 i R an;have k:=k.q9 i R an;have a0:=a0.q9 i R an;have i:=x;refine WK.done oR (c7 _ _ _ ?_);refine d8 (zc λ_ d7=>?_);refine CW.gJ 15 16 rfl dZ λi2 c6 d a=>?_;have g:=g.ta a;have i:=i.q8 a;have f:=f.q8 a;have h:=h.q8 a;have k:=k.q8 a;have a0:=a0.q8 a;have t:=i;have y:=f;refine wk 0 rfl d (eM rfl) (wk 1 rfl d (eM rfl) (wk 2 rfl d (eP rfl) (wk 3 rfl d (eF rfl) (wk 4 rfl d (λ_ o=>Ev.fZ rfl rfl (t.q8 o) rfl rfl) ?_))))
 try simp only[oL]
 refine wk 5 rfl d (eM rfl) (wk 6 rfl d (eP rfl) (wk 7 rfl d (eF rfl) (wk 8 rfl d (λ_ o=>Ev.fZ rfl rfl (y.q8 o) rfl rfl) ?_)))
 try simp only[oL]
 refine WK.k7 9 rfl oR hasF98 rfl rfl (bqj _ _ _ _ _ _ _ _ _ h k (hg.keepI f7 g) (bX b0) (bX a5)) λv w7 h'=>?_;obtain ⟨hD,C⟩:=h';rw[jJ b0 a5] at hD;obtain ⟨f9,m6,rfl,b9⟩:=hD.cells;have g:=g.ta C;have i:=i.q8 C;have a0:=a0.q8 C;have d:=d.trans C;refine ⟨d,?_⟩;refine wk 10 rfl d (eM rfl) (wk 11 rfl d (eX rfl rfl) (wt 12 rfl (λ_=>d) (λ_=>Ev.extract rfl rfl) (wt 13 rfl (λ_=>d) (λ_=>Ev.nilPtr rfl) (wk 14 rfl d (eF rfl) ?_))));refine WK.nZ 15 rfl oR oR rfl rfl rfl ao i oS rfl λi0 x a1=>?_;(try simp only[qt] at x);have g:=g.s1 a1;have a0:=a0.q9 i a1 an;have b9:=b9.q9 i a1 an;have i:=x;refine WK.done oR (c6 _ _ _ ?_);refine d7 (Sr λ_ d6=>za rfl (zz (d6 ?_)));refine zr (zr1 rfl rfl ?_);refine .inr ⟨e7,rfl,⟨g0,f9,?_,a0,b9⟩,g⟩;unfold Sh.merge SP.add;dsimp only;rw[<- a6,<- h9];exact i
theorem a6q(b:Nat)(S:Sh)(w:World)(a:ShM 91 w b S)(e4:S.wf)(hg:GW w):Ret Tryz.prog 31 [.pointer (some ⟨b,0,none⟩),.pointer (some ⟨b,0,none⟩)] w λu w'=>(1099511627776<S.s.al+S.s.al/\u = .int .i64 2/\ShM 91 w' b S/\Chg [b] w w')\/(S.s.al+S.s.al<=1099511627776/\u = .int .i64 0/\ShM 91 w' b (S.merge S)/\Chg [b] w w'):=by
 obtain ⟨rv,rq,i,h,d⟩:=a;have e9:=i;have i5:=e4;obtain ⟨⟨b1,b0,a9,a8,a7,a6⟩,U,X,i6,i7⟩:=e4;have f:Chg [b] w w:=Chg.refl _ _;refine zE2 Tryz.func31 rfl ?_;refine Sr λ_ f8=>za rfl (zz (f8 (zc λ_ f7=>zc λ_ f6=>?_)));refine CW.jQ dZ oR λk5 f3 g=>?_;have f:=f.ta g;have i:=i.q8 g;have h:=h.q8 g;have d:=d.q8 g;refine ym rfl (yP rfl (yf rfl (yf rfl ?_)));refine WS.ev (Ev.load rfl rfl (i.at_ rfl)) rfl ?_;refine ym rfl (yP rfl (yf rfl (yf rfl ?_)));refine WS.ev (Ev.load rfl rfl (i.at_ rfl)) rfl ?_;refine WS.ev (Ev.kQ rfl rfl oO) rfl ?_;refine WS.ev (Ev.gtr rfl rfl) rfl ?_;refine WS.nil (f3 _ _ ?_);refine f6 ?_;refine zy rfl ?_ ?_<;>intro b8<;>try simp only[qs] at b8
 ·have e8:1099511627776<S.s.al+S.s.al:=by have:=b8;omega
  refine Sr λ_ f5=>za rfl (zz (f5 ?_));refine zr (zr1 rfl rfl ?_);exact .inl ⟨e8,rfl,⟨_,_,i,h,d⟩,f⟩
 have e5:S.s.al+S.s.al<=1099511627776:=by have:=b8;omega
 refine zkk (f7 ?_);refine CW.anj (λD s' w'=>D=[]/\∃ x b3:Nat,x=(if S.some/\(¬S.some\/key S.lo<key S.lo) then S.lo else S.lo)/\b3=(if S.some/\(¬S.some\/key S.hi<key S.hi) then S.hi else S.hi)/\BK w' b 91 [.int .i64 (S.s.na:Int),.int .i64 (S.s.up:Int),.int .i64 (S.s.dn:Int),.int .i64 (S.s.mi:Int),.int .i64 (S.s.pl:Int),.int .i64 (S.s.al:Int),.bool S.V.neg,rv,.int .i64 S.V.e,.bool S.Q.neg,rq,.int .i64 S.Q.e,.float .f64 x,.float .f64 b3]/\NU w' rv (wd S.V.m)/\NU w' rq (wd S.Q.m)/\Chg [b] w w'/\j0 [(0,.pointer (some ⟨b,0,none⟩)),(1,.pointer (some ⟨b,0,none⟩))] s') ?_ ?_
 ·refine Sr λ_ f4=>zm rfl ?_;refine WL.call hasF47 rfl rfl (asj b S _ ⟨rv,rq,i,h,d⟩ ⟨b1,b0,a9,a8,a7,a6⟩) λv w1 Z=>?_;obtain ⟨rfl,y⟩:=Z;have f:=f.ta y;have i:=i.q8 y;have h:=h.q8 y;have d:=d.q8 y;refine zz (f4 ?_);refine zy rfl ?_ ?_<;>intro b7<;>try simp only[qs] at b7
  ·have t:S.some:=by simpa using b7
   have a1:=t;rw[decide_eq_true t];refine CW.anj (λD s' w'=>D=[]/\∃ x:Nat,x=(if S.some/\(¬S.some\/key S.lo<key S.lo) then S.lo else S.lo)/\BK w' b 91 [.int .i64 (S.s.na:Int),.int .i64 (S.s.up:Int),.int .i64 (S.s.dn:Int),.int .i64 (S.s.mi:Int),.int .i64 (S.s.pl:Int),.int .i64 (S.s.al:Int),.bool S.V.neg,rv,.int .i64 S.V.e,.bool S.Q.neg,rq,.int .i64 S.Q.e,.float .f64 x,.float .f64 S.hi]/\NU w' rv (wd S.V.m)/\NU w' rq (wd S.Q.m)/\Chg [b] w w'/\j0 [(0,.pointer (some ⟨b,0,none⟩)),(1,.pointer (some ⟨b,0,none⟩))] s') ?_ ?_
   ·refine CW.azx 34 (decide (¬S.some\/key S.lo<key S.lo)) ?_ ?_
    ·intro r;refine CW.cQ 15 rfl dZ λi4 d3 a g=>?_;have r:=r.ta g;have i:=i.q8 g;have h:=h.q8 g;have d:=d.q8 g;have k:=i;refine wh 0 rfl a (eM rfl) ?_;refine WH.k7 1 rfl oR hasF47 rfl rfl (asj b S _ ⟨rv,rq,i,h,d⟩ ⟨b1,b0,a9,a8,a7,a6⟩) λv w2 Z=>?_;obtain ⟨rfl,y⟩:=Z;rw[show decide (Sh.some S)=true from decide_eq_true t];have r:=r.ta y;have a:=a.trans y;refine ⟨a,?_⟩;refine wh 2 rfl a (λ_ _=>Ev.not rfl) (wh 3 rfl a (eM rfl) (wg 4 rfl rfl rfl rfl rfl a (eM rfl) (wg 5 rfl rfl rfl rfl rfl a (eP rfl) (wg 6 rfl rfl rfl rfl rfl a (eF rfl) (wg 7 rfl rfl rfl rfl rfl a (λ_ j=>Ev.load rfl rfl ((k.q8 j).at_ rfl)) (wg 8 rfl rfl rfl rfl rfl a (eM rfl) (wg 9 rfl rfl rfl rfl rfl a (eP rfl) (wg 10 rfl rfl rfl rfl rfl a (eF rfl) (wg 11 rfl rfl rfl rfl rfl a (λ_ j=>Ev.load rfl rfl ((k.q8 j).at_ rfl)) ?_)))))))));refine WH.rX 12 rfl oR rfl rfl rfl rfl hasF97 rfl rfl (afj S.lo S.lo oO oO _) λv w3 Z=>?_;obtain ⟨rfl,rfl⟩:=Z;refine ⟨a,?_⟩;refine wg 13 rfl rfl rfl rfl rfl a (λ_ _=>Ev.lss rfl rfl) (wh 14 rfl a (λ_ _=>Ev.aox rfl rfl rfl) ?_);refine WH.done oR (d3 _ _ _ ?_);refine ⟨rfl,r,j0.g8 rfl ?_ ?_⟩
     ·first|exact (decide_eq_true (.inl a1)).symm|exact decide_eq_decide.2 (by rw[bqx];exact ⟨.inr,λq=>q.resolve_left (λz=>z a1)⟩)
     exact SMg
    intro wM r;have f:=f.ta r;have i:=i.q8 r;have h:=h.q8 r;have d:=d.q8 r;refine zy rfl ?_ ?_<;>intro b6<;>try simp only[qs] at b6
    ·have hq : ¬S.some\/key S.lo<key S.lo:=by simpa using b6
     refine zS λ_ d2=>zm rfl (zm rfl (zP rfl (zf rfl (zl i rfl rfl (zP rfl (zf rfl ?_))))));refine WL.bJ rfl rfl o1 i oS rfl λh4 o T=>?_;(try simp only[qt] at o);have f:=f.s1 T;have h:=h.q9 i T an;have d:=d.q9 i T an;have i:=o;refine zz (d2 ?_);exact ⟨rfl,S.lo,(if_pos ⟨t,hq⟩).symm,i,h,d,f,(by first|((repeat (first|exact j0.refl|refine j0.oZ (by rfl) ?_));done)|((repeat (first|exact j0.nil|refine j0.cons rfl ?_));done))⟩
    have hq : ¬(¬S.some\/key S.lo<key S.lo):=by simpa using b6
    refine zkk ?_;exact ⟨rfl,S.lo,(if_neg (λq=>hq q.2)).symm,i,h,d,f,(by first|((repeat (first|exact j0.refl|refine j0.oZ (by rfl) ?_));done)|((repeat (first|exact j0.nil|refine j0.cons rfl ?_));done))⟩
   rintro _ s' wJ ⟨rfl,x,a2,i,h,d,f,a0⟩;refine CW.sub a0 ?_;refine CW.azx 56 (decide (¬S.some\/key S.hi<key S.hi)) ?_ ?_
   ·intro r;refine CW.cQ 15 rfl dZ λi3 d1 a g=>?_;have r:=r.ta g;have i:=i.q8 g;have h:=h.q8 g;have d:=d.q8 g;have k:=i;refine wh 0 rfl a (eM rfl) ?_;refine WH.k7 1 rfl oR hasF47 rfl rfl (asj b ⟨S.s,S.V,S.Q,x,S.hi⟩ _ ⟨rv,rq,i,h,d⟩ ⟨b1,b0,a9,a8,a7,a6⟩) λv w4 Z=>?_;obtain ⟨rfl,y⟩:=Z;rw[show decide (Sh.some ⟨S.s,S.V,S.Q,x,S.hi⟩)=true from decide_eq_true t];have r:=r.ta y;have a:=a.trans y;refine ⟨a,?_⟩;refine wh 2 rfl a (λ_ _=>Ev.not rfl) (wh 3 rfl a (eM rfl) (wg 4 rfl rfl rfl rfl rfl a (eM rfl) (wg 5 rfl rfl rfl rfl rfl a (eP rfl) (wg 6 rfl rfl rfl rfl rfl a (eF rfl) (wg 7 rfl rfl rfl rfl rfl a (λ_ j=>Ev.load rfl rfl ((k.q8 j).at_ rfl)) (wg 8 rfl rfl rfl rfl rfl a (eM rfl) (wg 9 rfl rfl rfl rfl rfl a (eP rfl) (wg 10 rfl rfl rfl rfl rfl a (eF rfl) (wg 11 rfl rfl rfl rfl rfl a (λ_ j=>Ev.load rfl rfl ((k.q8 j).at_ rfl)) ?_)))))))));refine WH.rX 12 rfl oR rfl rfl rfl rfl hasF97 rfl rfl (afj S.hi S.hi oO oO _) λv w5 Z=>?_;obtain ⟨rfl,rfl⟩:=Z;refine ⟨a,?_⟩;refine wg 13 rfl rfl rfl rfl rfl a (λ_ _=>Ev.gtr rfl rfl) (wh 14 rfl a (λ_ _=>Ev.aox rfl rfl rfl) ?_);refine WH.done oR (d1 _ _ _ ?_);refine ⟨rfl,r,j0.g8 rfl ?_ ?_⟩
    ·first|exact (decide_eq_true (.inl a1)).symm|exact decide_eq_decide.2 (by rw[afx];exact ⟨.inr,λq=>q.resolve_left (λz=>z a1)⟩)
    exact SMg
   intro wM r;have f:=f.ta r;have i:=i.q8 r;have h:=h.q8 r;have d:=d.q8 r;refine zy rfl ?_ ?_<;>intro b4<;>try simp only[qs] at b4
   ·have hq : ¬S.some\/key S.hi<key S.hi:=by simpa using b4
    refine zS λ_ d0=>zm rfl (zm rfl (zP rfl (zf rfl (zl i rfl rfl (zP rfl (zf rfl ?_))))));refine WL.bJ rfl rfl o1 i oS rfl λh3 o R=>?_;(try simp only[qt] at o);have f:=f.s1 R;have h:=h.q9 i R an;have d:=d.q9 i R an;have i:=o;refine zz (d0 ?_);exact ⟨rfl,x,S.hi,a2,(if_pos ⟨t,hq⟩).symm,i,h,d,f,(by first|((repeat (first|exact j0.refl|refine j0.oZ (by rfl) ?_));done)|((repeat (first|exact j0.nil|refine j0.cons rfl ?_));done))⟩
   have hq : ¬(¬S.some\/key S.hi<key S.hi):=by simpa using b4
   refine zkk ?_;exact ⟨rfl,x,S.hi,a2,(if_neg (λq=>hq q.2)).symm,i,h,d,f,(by first|((repeat (first|exact j0.refl|refine j0.oZ (by rfl) ?_));done)|((repeat (first|exact j0.nil|refine j0.cons rfl ?_));done))⟩
  have t : ¬S.some:=by simpa using b7
  refine zkk ?_;exact ⟨rfl,S.lo,S.hi,(if_neg (λq=>t q.1)).symm,(if_neg (λq=>t q.1)).symm,i,h,d,f,(by first|((repeat (first|exact j0.refl|refine j0.oZ (by rfl) ?_));done)|((repeat (first|exact j0.nil|refine j0.cons rfl ?_));done))⟩
 rintro _ s' wJ ⟨rfl,x,b3,a2,g0,i,h,d,f,a0⟩;refine CW.sub a0 ?_;refine Sr λ_ e3=>zm rfl (zP rfl (zf rfl ?_));refine WL.ev (Ev.fZ (cs:=[.int .i64 (S.s.na:Int),.int .i64 (S.s.up:Int),.int .i64 (S.s.dn:Int),.int .i64 (S.s.mi:Int),.int .i64 (S.s.pl:Int),.int .i64 (S.s.al:Int)]) rfl rfl i rfl rfl) rfl ?_;refine WL.iZ (l:=[.int .i64 0,.int .i64 0,.int .i64 0,.int .i64 0,.int .i64 0,.int .i64 0]) rfl rfl λb5 i9 n Y e7=>?_;have e6:=Nat.le_trans f.size e7;have f:=f.ta Y;have h:=h.q8 Y;have d:=d.q8 Y;have f9:b≠b5:=by have:=i.lt;omega
 have i:=i.q8 Y;refine zss rfl rfl ao n rfl λh2 a3 H=>?_;(try simp only[qt] at a3);have f:=f.s1 H;have i:=i.kq H;have h:=h.q9 n H an;have d:=d.q9 n H an;have n:=a3;refine zz (e3 (zc λ_ e2=>?_));refine CW.gJ 11 12 rfl dZ λi2 c9 a g=>?_;have f:=f.ta g;have i:=i.q8 g;have n:=n.k0 g;have h:=h.q8 g;have d:=d.q8 g;have k:=i;have p:=n;refine wk 0 rfl a (eM rfl) (wk 1 rfl a (eP rfl) (wk 2 rfl a (eF rfl) (wk 3 rfl a (eF rfl) (wk 4 rfl a (λ_ j=>Ev.load rfl rfl ((k.q8 j).at_ rfl)) (wk 5 rfl a (eF rfl) (wk 6 rfl a (λ_ j=>Ev.load rfl rfl ((p.q8 j).at_ rfl)) (wk 7 rfl a (λ_ _=>Ev.kQ rfl rfl oO) (wt 8 rfl (λ_=>a) (λ_=>Ev.nilPtr rfl) (wt 9 rfl (λ_=>a) (λ_=>Ev.fieldAddr rfl) (wk 10 rfl a (eF rfl) ?_))))))))));refine WK.bJ 11 rfl oR oR rfl rfl o1 i oS rfl λh1 o G=>?_;(try simp only[qt] at o);have f:=f.s1 G;have n:=n.kq G;have h:=h.q9 i G an;have d:=d.q9 i G an;have i:=o;refine WK.done oR (c9 _ _ _ ?_);refine e2 (zc λ_ e1=>?_);refine CW.gJ 11 12 rfl dZ λi1 c8 a g=>?_;have f:=f.ta g;have i:=i.q8 g;have n:=n.k0 g;have h:=h.q8 g;have d:=d.q8 g;have k:=i;have p:=n;refine wk 0 rfl a (eM rfl) (wk 1 rfl a (eP rfl) (wk 2 rfl a (eF rfl) (wk 3 rfl a (eF rfl) (wk 4 rfl a (λ_ j=>Ev.load rfl rfl ((k.q8 j).at_ rfl)) (wk 5 rfl a (eF rfl) (wk 6 rfl a (λ_ j=>Ev.load rfl rfl ((p.q8 j).at_ rfl)) (wk 7 rfl a (λ_ _=>Ev.kQ rfl rfl oO) (wt 8 rfl (λ_=>a) (λ_=>Ev.nilPtr rfl) (wt 9 rfl (λ_=>a) (λ_=>Ev.fieldAddr rfl) (wk 10 rfl a (eF rfl) ?_))))))))));refine WK.bJ 11 rfl oR oR rfl rfl o1 i oS rfl λh0 o F=>?_;(try simp only[qt] at o);have f:=f.s1 F;have n:=n.kq F;have h:=h.q9 i F an;have d:=d.q9 i F an;have i:=o;refine WK.done oR (c8 _ _ _ ?_);refine e1 (zc λ_ e0=>?_);refine CW.gJ 11 12 rfl dZ λi0 c7 a g=>?_;have f:=f.ta g;have i:=i.q8 g;have n:=n.k0 g;have h:=h.q8 g;have d:=d.q8 g;have k:=i;have p:=n;refine wk 0 rfl a (eM rfl) (wk 1 rfl a (eP rfl) (wk 2 rfl a (eF rfl) (wk 3 rfl a (eF rfl) (wk 4 rfl a (λ_ j=>Ev.load rfl rfl ((k.q8 j).at_ rfl)) (wk 5 rfl a (eF rfl) (wk 6 rfl a (λ_ j=>Ev.load rfl rfl ((p.q8 j).at_ rfl)) (wk 7 rfl a (λ_ _=>Ev.kQ rfl rfl oO) (wt 8 rfl (λ_=>a) (λ_=>Ev.nilPtr rfl) (wt 9 rfl (λ_=>a) (λ_=>Ev.fieldAddr rfl) (wk 10 rfl a (eF rfl) ?_))))))))))
 refine WK.bJ 11 rfl oR oR rfl rfl o1 i oS rfl λg9 o C=>?_;(try simp only[qt] at o);have f:=f.s1 C;have n:=n.kq C;have h:=h.q9 i C an;have d:=d.q9 i C an;have i:=o;refine WK.done oR (c7 _ _ _ ?_);refine e0 (zc λ_ d9=>?_);refine CW.gJ 11 12 rfl dZ λh9 c6 a g=>?_;have f:=f.ta g;have i:=i.q8 g;have n:=n.k0 g;have h:=h.q8 g;have d:=d.q8 g;have k:=i;have p:=n;refine wk 0 rfl a (eM rfl) (wk 1 rfl a (eP rfl) (wk 2 rfl a (eF rfl) (wk 3 rfl a (eF rfl) (wk 4 rfl a (λ_ j=>Ev.load rfl rfl ((k.q8 j).at_ rfl)) (wk 5 rfl a (eF rfl) (wk 6 rfl a (λ_ j=>Ev.load rfl rfl ((p.q8 j).at_ rfl)) (wk 7 rfl a (λ_ _=>Ev.kQ rfl rfl oO) (wt 8 rfl (λ_=>a) (λ_=>Ev.nilPtr rfl) (wt 9 rfl (λ_=>a) (λ_=>Ev.fieldAddr rfl) (wk 10 rfl a (eF rfl) ?_))))))))));refine WK.bJ 11 rfl oR oR rfl rfl o1 i oS rfl λg5 o B=>?_;(try simp only[qt] at o);have f:=f.s1 B;have n:=n.kq B;have h:=h.q9 i B an;have d:=d.q9 i B an;have i:=o;refine WK.done oR (c6 _ _ _ ?_);refine d9 (zc λ_ d8=>?_);refine CW.gJ 11 12 rfl dZ λh8 c5 a g=>?_;have f:=f.ta g;have i:=i.q8 g;have n:=n.k0 g;have h:=h.q8 g;have d:=d.q8 g;have k:=i;have p:=n;refine wk 0 rfl a (eM rfl) (wk 1 rfl a (eP rfl) (wk 2 rfl a (eF rfl) (wk 3 rfl a (eF rfl) (wk 4 rfl a (λ_ j=>Ev.load rfl rfl ((k.q8 j).at_ rfl)) (wk 5 rfl a (eF rfl) (wk 6 rfl a (λ_ j=>Ev.load rfl rfl ((p.q8 j).at_ rfl)) (wk 7 rfl a (λ_ _=>Ev.kQ rfl rfl oO) (wt 8 rfl (λ_=>a) (λ_=>Ev.nilPtr rfl) (wt 9 rfl (λ_=>a) (λ_=>Ev.fieldAddr rfl) (wk 10 rfl a (eF rfl) ?_))))))))));refine WK.bJ 11 rfl oR oR rfl rfl o1 i oS rfl λg4 o A=>?_;(try simp only[qt] at o);have f:=f.s1 A;have n:=n.kq A;have h:=h.q9 i A an;have d:=d.q9 i A an;have i:=o;refine WK.done oR (c5 _ _ _ ?_);refine d8 (zc λ_ d7=>?_);refine CW.gJ 11 12 rfl dZ λh7 c4 a g=>?_;have f:=f.ta g;have i:=i.q8 g;have n:=n.k0 g;have h:=h.q8 g;have d:=d.q8 g;have k:=i;have p:=n;refine wk 0 rfl a (eM rfl) (wk 1 rfl a (eP rfl) (wk 2 rfl a (eF rfl) (wk 3 rfl a (eF rfl) (wk 4 rfl a (λ_ j=>Ev.load rfl rfl ((k.q8 j).at_ rfl)) (wk 5 rfl a (eF rfl) (wk 6 rfl a (λ_ j=>Ev.load rfl rfl ((p.q8 j).at_ rfl)) (wk 7 rfl a (λ_ _=>Ev.kQ rfl rfl oO) (wt 8 rfl (λ_=>a) (λ_=>Ev.nilPtr rfl) (wt 9 rfl (λ_=>a) (λ_=>Ev.fieldAddr rfl) (wk 10 rfl a (eF rfl) ?_))))))))))
 refine WK.bJ 11 rfl oR oR rfl rfl o1 i oS rfl λg3 o O=>?_;(try simp only[qt] at o);have f:=f.s1 O;have h:=h.q9 i O an;have d:=d.q9 i O an;have i:=o;refine WK.done oR (c4 _ _ _ ?_);refine d7 (zc λ_ d6=>?_);refine CW.gJ 15 16 rfl dZ λh6 c3 a g=>?_;have f:=f.ta g;have i:=i.q8 g;have h:=h.q8 g;have d:=d.q8 g;have k:=i;refine wk 0 rfl a (eM rfl) (wk 1 rfl a (eM rfl) (wk 2 rfl a (eP rfl) (wk 3 rfl a (eF rfl) (wk 4 rfl a (λ_ j=>Ev.fZ rfl rfl (k.q8 j) rfl rfl) ?_))))
 try simp only[oL]
 refine wk 5 rfl a (eM rfl) (wk 6 rfl a (eP rfl) (wk 7 rfl a (eF rfl) (wk 8 rfl a (λ_ j=>Ev.fZ rfl rfl (k.q8 j) rfl rfl) ?_)))
 try simp only[oL]
 refine WK.k7 9 rfl oR hasF98 rfl rfl (bqj _ _ _ _ _ _ _ _ _ h h (hg.keepI e9 f) (bX U) (bX U)) λv w6 Z=>?_;obtain ⟨hD,y⟩:=Z;rw[jJ U U] at hD;obtain ⟨f2,k4,rfl,I⟩:=hD.cells;have f:=f.ta y;have i:=i.q8 y;have d:=d.q8 y;have a:=a.trans y;refine ⟨a,?_⟩;refine wk 10 rfl a (eM rfl) (wk 11 rfl a (eX rfl rfl) (wt 12 rfl (λ_=>a) (λ_=>Ev.extract rfl rfl) (wt 13 rfl (λ_=>a) (λ_=>Ev.nilPtr rfl) (wk 14 rfl a (eF rfl) ?_))));refine WK.nZ 15 rfl oR oR rfl rfl rfl ao i oS rfl λg2 o M=>?_;(try simp only[qt] at o);have f:=f.s1 M;have d:=d.q9 i M an;have I:=I.q9 i M an;have i:=o;refine WK.done oR (c3 _ _ _ ?_);refine d6 (zc λ_ d5=>?_);refine CW.gJ 15 16 rfl dZ λh5 c2 a g=>?_;have f:=f.ta g;have i:=i.q8 g;have d:=d.q8 g;have I:=I.q8 g;have k:=i;refine wk 0 rfl a (eM rfl) (wk 1 rfl a (eM rfl) (wk 2 rfl a (eP rfl) (wk 3 rfl a (eF rfl) (wk 4 rfl a (λ_ j=>Ev.fZ rfl rfl (k.q8 j) rfl rfl) ?_))))
 try simp only[oL]
 refine wk 5 rfl a (eM rfl) (wk 6 rfl a (eP rfl) (wk 7 rfl a (eF rfl) (wk 8 rfl a (λ_ j=>Ev.fZ rfl rfl (k.q8 j) rfl rfl) ?_)))
 try simp only[oL]
 refine WK.k7 9 rfl oR hasF98 rfl rfl (bqj _ _ _ _ _ _ _ _ _ d d (hg.keepI e9 f) (bX X) (bX X)) λv w7 Z=>?_;obtain ⟨hD,y⟩:=Z;rw[jJ X X] at hD;obtain ⟨f1,k3,rfl,b9⟩:=hD.cells;have f:=f.ta y;have i:=i.q8 y;have I:=I.q8 y;have a:=a.trans y;refine ⟨a,?_⟩;refine wk 10 rfl a (eM rfl) (wk 11 rfl a (eX rfl rfl) (wt 12 rfl (λ_=>a) (λ_=>Ev.extract rfl rfl) (wt 13 rfl (λ_=>a) (λ_=>Ev.nilPtr rfl) (wk 14 rfl a (eF rfl) ?_))));refine WK.nZ 15 rfl oR oR rfl rfl rfl ao i oS rfl λg1 o J=>?_;(try simp only[qt] at o);have f:=f.s1 J;have I:=I.q9 i J an;have b9:=b9.q9 i J an;have i:=o;refine WK.done oR (c2 _ _ _ ?_);refine d5 (Sr λ_ d4=>za rfl (zz (d4 ?_)));refine zr (zr1 rfl rfl ?_);refine .inr ⟨e5,rfl,⟨f2,f1,?_,I,b9⟩,f⟩;unfold Sh.merge SP.add;dsimp only;rw[<- a2,<- g0];exact i
def shE(s:SP)(mode pn pi:Int):Int:=if ¬((0<=mode/\mode<=4)/\yZ pn pi) then 1 else dzj s pn pi
def crq(S:Sh)(mode pn pi:Int)(b:Nat)(e:Int):Prop:=
  (shE S.s mode pn pi≠0/\b=0/\e=shE S.s mode pn pi)\/(shE S.s mode pn pi=0/\((∃ x,lZ S.s pn pi = .some x/\b=x/\e=0)\/(lZ S.s pn pi = .none/\
    ((S.V.m=0/\b=adq S.s mode/\e=0)\/(S.V.m≠0/\cyq (.some S.V) mode b e)))))
def c8q(S:Sh)(mode pn pi:Int)(b:Nat)(e:Int):Prop:=
  (shE S.s mode pn pi≠0/\b=0/\e=shE S.s mode pn pi)\/(shE S.s mode pn pi=0/\((∃ x,lZ S.s pn pi = .some x/\b=x/\e=0)\/(lZ S.s pn pi = .none/\
    ((S.fin=0/\b=0/\e=3)\/(S.fin≠0/\((S.V.m=0/\b=adq S.s mode/\e=0)\/(S.V.m≠0/\bwq S.V.neg (cJ S.fin).neg S.V.m (cJ S.fin).m S.V.e (cJ S.fin).e mode b e)))))))
def bxx(S:Sh)(x:Nat):Nat×Int:=if S.s.al=0 then (0,3) else if ¬S.some then (9221120237041090560,0) else (x,0)
theorem brq(s:SP)(a b:Int):(∃ x,lZ s a b = .some x/\(lZ s a b).isSome=true/\(lZ s a b).getD 0=x)\/(lZ s a b = .none/\(lZ s a b).isSome=false):=by
  cases h:lZ s a b with
  | none=>exact .inr ⟨rfl,rfl⟩
  | some x=>exact .inl ⟨x,rfl,rfl,rfl⟩
theorem sgD_nz{d:Dy}: sgD d.neg d.m=0↔d.m=0:=bax
theorem of_quot{d:Dy}{n mode:Int}{b:Nat}{e:Int}(g:d.ok)(i:d.m≠0)(f:0<=mode/\mode<=4)(o:1<=n)(l:n<=1099511627776)(h:ofR d.neg d.m d.e n mode b e):bwq d.neg (cJ n).neg d.m (cJ n).m d.e (cJ n).e mode b e:=by
  rcases h with ⟨q,_⟩|⟨_,⟨q,_⟩|⟨p,a,j⟩⟩
  · exact absurd ⟨f,o,l⟩ q
  · rw[nQ g] at q;cases q
  · rw[nQ g] at a;cases a
    rcases j with ⟨q,_⟩|⟨_,k⟩
    · exact absurd q i
    · rwa [show ((n.toNat:Nat):Int)=n by omega] at k
theorem baq(b:Nat)(S:Sh)(mode e f:Int)(w:World)(hS:ShM 91 w b S)(F:S.wf)(hg:GW w):Ret Tryz.prog 72 [.pointer (some ⟨b,0,none⟩),.int .i64 mode,.agg [.int .i64 e,.int .i64 f].toArray] w λu w'=>u = .int .i64 (shE S.s mode e f)/\Chg [] w w':=by
 obtain ⟨rv,rq,h,b0,b1⟩:=hS;obtain ⟨I,T,U,V,X⟩:=F;obtain ⟨a6,a5,a4,a3,a2,a1⟩:=I;have a:=crf w;have a7:=hg;refine zE3 Tryz.func72 rfl ?_;refine Sr λ_ D=>?_;refine zBh rfl rfl rfl a λb5 a0 g x Y t a=>?_;have H:b≠b5:=by have:=h.lt;omega
 have h:=h.q8 x;refine za rfl (zz (D (zc λ_ C=>CW.block ?_)));refine CW.azx 7 (decide (¬((0<=mode/\mode<=4)/\yZ e f))) ?_ ?_
 ·intro d;refine zS λ_ k=>zm rfl (zL rfl rfl (zm rfl ?_));refine zb ?_ ?_<;>intro O<;>try simp only[qs] at O
  ·refine zv rfl (zv rfl (zt rfl rfl (zm rfl (zv rfl (zv rfl (zv rfl (zt rfl rfl (za rfl (zz (k ?_))))))))));refine ⟨rfl,d,j0.g8 rfl ?_ ?_⟩
   ·first|(simp_all;done)|(simp;omega)|(refine decide_eq_decide.2 ?_;omega)|(cases hdm:decide (yZ e f)<;>simp_all<;>omega)
   exact SMg
  refine zw rfl (zm rfl (zw rfl (zG rfl rfl (ze rfl rfl (zm rfl ?_)))));refine zb ?_ ?_<;>intro M<;>try simp only[qs] at M
  ·refine zv rfl (zv rfl (zv rfl (zt rfl rfl (za rfl (zz (k ?_))))));refine ⟨rfl,d,j0.g8 rfl ?_ ?_⟩
   ·first|(simp_all;done)|(simp;omega)|(refine decide_eq_decide.2 ?_;omega)|(cases hdm:decide (yZ e f)<;>simp_all<;>omega)
   exact SMg
  refine zw rfl (zg g rfl (zw rfl ?_));refine WL.call hasF129 rfl rfl (dyx e f _) λv w1 h'=>?_;obtain ⟨rfl,hC⟩:=h';have d:=d.ta hC;refine zw rfl (zT rfl (ze rfl rfl (za rfl (zz (k ?_)))));refine ⟨rfl,d,j0.g8 rfl ?_ ?_⟩
  ·first|(simp_all;done)|(simp;omega)|(refine decide_eq_decide.2 ?_;omega)|(cases hdm:decide (yZ e f)<;>simp_all<;>omega)
  exact SMg
 intro wM d;have a:=a.ta d;have h:=h.q8 d;have g:=g.k0 d;refine zy rfl ?_ ?_<;>intro o<;>try simp only[qs] at o
 ·have G : ¬((0<=mode/\mode<=4)/\yZ e f):=o
  refine Sr λ_ B=>za rfl (zz (B ?_));refine zr (zr1 rfl rfl ?_);refine ⟨?_,a⟩;rw[show shE S.s mode e f=1 from if_pos G]
 have G : ¬¬((0<=mode/\mode<=4)/\yZ e f):=λz=>z o;have Z:shE S.s mode e f=dzj S.s e f:=if_neg G;rw[Z];refine CW.oX 19 (decide (0<S.s.na/\e=2)) ?_ ?_
 ·refine zS λ_ p=>zm rfl (zP rfl (zf rfl (zf rfl (zl h rfl rfl (zG rfl rfl (zm rfl ?_))))));refine zb ?_ ?_<;>intro J<;>try simp only[qs] at J
  ·refine zw rfl (zf rfl (zw rfl (zl g rfl rfl (zw rfl (zq rfl rfl (zt rfl rfl (za rfl (zz (p ?_)))))))));refine ⟨rfl,rfl,j0.g8 rfl ?_ ?_⟩
   ·first|(simp_all;done)|(simp;omega)|(refine decide_eq_decide.2 ?_;omega)
   exact SMg
  refine zv rfl (zv rfl (zv rfl (ze rfl rfl (za rfl (zz (p ?_))))));refine ⟨rfl,rfl,j0.g8 rfl ?_ ?_⟩
  ·first|(simp_all;done)|(simp;omega)|(refine decide_eq_decide.2 ?_;omega)
  exact SMg
 refine zy rfl ?_ ?_<;>intro n<;>try simp only[qs] at n
 ·have y:0<S.s.na/\e=2:=n
  refine Sr λ_ A=>za rfl (zz (A ?_));refine zr (zr1 rfl rfl ?_);refine ⟨?_,a⟩;rw[show dzj S.s e f=60 from if_pos y]
 have y : ¬(0<S.s.na/\e=2):=n;refine CW.seqMD 31 (decide (0<S.s.up+S.s.dn/\f=2)) ?_ ?_
 ·refine CW.jQ dZ oR λR j i=>?_;have h:=h.q8 i;have g:=g.k0 i;refine ym rfl (yP rfl (yf rfl (yf rfl ?_)));refine WS.ev (Ev.load rfl rfl (h.at_ rfl)) rfl ?_;refine ym rfl (yP rfl (yf rfl (yf rfl ?_)));refine WS.ev (Ev.load rfl rfl (h.at_ rfl)) rfl ?_
  first|refine WS.ev (Ev.kQ rfl rfl oO) rfl ?_|refine WS.ev (Ev.add rfl rfl) rfl ?_
  refine WS.ev (Ev.gtr rfl rfl) rfl ?_;refine ym rfl ?_;refine WS.afq (λl=>?_) (λl=>?_)
  ·(try simp only[qs] at l);refine yw rfl (yf rfl (yw rfl ?_));refine WS.ev (Ev.load rfl rfl (g.at_ rfl)) rfl ?_
   refine yw rfl ?_;refine WS.ev (Ev.eql rfl rfl) rfl ?_;refine yt rfl rfl (ya rfl ?_);refine WS.nil (j _ _ ?_);refine ⟨rfl,rfl,j0.g8 rfl ?_ ?_⟩
   ·first|(simp_all;done)|(simp;omega)|(refine decide_eq_decide.2 ?_;omega)
   exact SMg
  (try simp only[qs] at l);refine yv rfl (yv rfl (yv rfl (ye rfl rfl (ya rfl ?_))));refine WS.nil (j _ _ ?_);refine ⟨rfl,rfl,j0.g8 rfl ?_ ?_⟩
  ·first|(simp_all;done)|(simp;omega)|(refine decide_eq_decide.2 ?_;omega)
  exact SMg
 intro i;have a:=a.ta i;refine zy rfl ?_ ?_<;>intro m<;>try simp only[qs] at m
 ·have Q:0<S.s.up+S.s.dn/\f=2:=m
  refine Sr λ_ r=>za rfl (zz (r ?_));refine zr (zr1 rfl rfl ?_);refine ⟨?_,a⟩;rw[show dzj S.s e f=61 from (if_neg y).trans (if_pos Q)]
 have Q : ¬(0<S.s.up+S.s.dn/\f=2):=m;refine zkk (C (Sr λ_ q=>za rfl (zz (q ?_))));refine zr (zr1 rfl rfl ?_);refine ⟨?_,a⟩;rw[Z,show dzj S.s e f=0 from (if_neg y).trans (if_neg Q)]
theorem ddj(b:Nat)(S:Sh)(mode j k:Int)(w:World)(h:ShM 91 w b S)(a7:S.wf)(hg:GW w):Ret Tryz.prog 23 [.pointer (some ⟨b,0,none⟩),.int .i64 mode,.agg [.int .i64 j,.int .i64 k].toArray] w λu w'=>(∃ x e,u = .tuple [.float .f64 x,.int .i64 e].toArray/\crq S mode j k x e)/\Chg [] w w':=by
 obtain ⟨rv,rq,g,d,C⟩:=h;obtain ⟨b8,l,T,U,X⟩:=a7;obtain ⟨b6,b4,b3,b2,b1,b0⟩:=b8;have a:=crf w;have Z:=hg;refine zE3 Tryz.func23 rfl ?_;refine Sr λ_ a6=>?_;refine zBh rfl rfl rfl a λb5 c4 i n c2 Y a=>?_;have d:=d.q8 n;have C:=C.q8 n;have b7:b≠b5:=by have:=g.lt;omega
 have g:=g.q8 n;refine za rfl (za rfl (zz (a6 (zc λ_ a5=>Sr λ_ a4=>zm rfl (zm rfl (zg i rfl ?_))))));refine WL.call hasF72 rfl rfl (baq b S mode j k _ ⟨rv,rq,g,d,C⟩ ⟨⟨b6,b4,b3,b2,b1,b0⟩,l,T,U,X⟩ (Z.q8 a)) λv w1 p=>?_;obtain ⟨rfl,f⟩:=p;have a:=a.ta f;have g:=g.q8 f;have i:=i.k0 f;have d:=d.q8 f;refine za rfl (zz (a4 (Sr λ_ a3=>zm rfl (zN rfl rfl (zz (a3 ?_))))));refine zy rfl ?_ ?_<;>intro A<;>try simp only[qs] at A
 ·have h0:shE S.s mode j k≠0:=A
  refine Sr λ_ a2=>zm rfl (za rfl (za rfl (zz (a2 ?_))));refine zr (zr2 rfl rfl rfl ?_);refine ⟨⟨_,_,rfl,?_⟩,a⟩;exact .inl ⟨h0,rfl,rfl⟩
 have h0:shE S.s mode j k=0:=by have:=A;omega
 refine zkk (a5 (zc λ_ Q=>zc λ_ O=>?_));refine CW.cQ 11 rfl dZ λb9 D h o=>?_;have a:=a.ta o;have g:=g.q8 o;have i:=i.k0 o;have d:=d.q8 o;have a0:=g;have B:=i;refine wh 0 rfl h (eM rfl) (wh 1 rfl h (eP rfl) (wh 2 rfl h (eF rfl) (wh 3 rfl h (λ_ r=>Ev.fZ rfl rfl (a0.q8 r) rfl rfl) ?_)))
 try simp only[oL]
 refine wh 4 rfl h (λ_ r=>Ev.rZ rfl rfl (B.q8 r) rfl) ?_;refine WH.k7 5 rfl oR hasF73 rfl rfl (cpq S.s j k _ ⟨by omega,by omega,by omega,by omega,by omega,by omega⟩) λv w2 p=>?_;obtain ⟨rfl,f⟩:=p;have R:=brq S.s j k;have a:=a.ta f;have g:=g.q8 f;have d:=d.q8 f;have h:=h.trans f;refine ⟨h,?_⟩;refine wh 6 rfl h (eM rfl) (wh 7 rfl h (eX rfl rfl) (wh 8 rfl h (eX rfl rfl) (wh 9 rfl h (eA rfl) (wh 10 rfl h (eA rfl) ?_))));refine WH.done oR (D _ _ _ ?_);refine O (Sr λ_ M=>zm rfl (zz (M ?_)));refine zy rfl ?_ ?_<;>intro z<;>try simp only[qs] at z
 ·obtain ⟨x,a9,c8,a8⟩ : ∃ x,lZ S.s j k = .some x/\(lZ S.s j k).isSome=true/\(lZ S.s j k).getD 0=x:=R.resolve_right (λq=>by have:=z;rw[q.2] at this;exact Bool.false_ne_true this);rw[a8]
  refine Sr λ_ J=>zm rfl (za rfl (za rfl (zz (J ?_))));refine zr (zr2 rfl rfl rfl ?_);refine ⟨⟨_,_,rfl,?_⟩,a⟩;exact .inr ⟨h0,.inl ⟨x,a9,rfl,rfl⟩⟩
 have hv:lZ S.s j k = .none:=by
  rcases R with ⟨_,_,q2,_⟩|q
  · have:=z;rw[q2] at this;exact absurd this oD
  exact q.1
 refine zkk (Q (zc λ_ I=>Sr λ_ H=>zm rfl (zP rfl (zf rfl ?_))));refine WL.ev (Ev.fZ rfl rfl g rfl rfl) rfl ?_
 try simp only[oL]
 refine WL.call hasF74 rfl rfl (akq _ _ _ _ _ d) λv w3 p=>?_;obtain ⟨rfl,f⟩:=p;rw[g7];have a:=a.ta f;have g:=g.q8 f;have d:=d.q8 f;refine zq rfl rfl (zz (H ?_));refine zy rfl ?_ ?_<;>intro y<;>try simp only[qs] at y
 ·have t:S.V.m=0:=sgD_nz.1 y
  refine Sr λ_ G=>zm rfl (zP rfl (zf rfl ?_));refine WL.ev (Ev.fZ rfl rfl g rfl rfl) rfl ?_
  try simp only[oL]
  refine zm rfl ?_;refine WL.call hasF75 rfl rfl (b3j S.s mode _ ⟨by omega,by omega,by omega,by omega,by omega,by omega⟩) λv w4 p=>?_;obtain ⟨rfl,f⟩:=p;have a:=a.ta f;refine za rfl (za rfl (zz (G ?_)));refine zr (zr2 rfl rfl rfl ?_);refine ⟨⟨_,_,rfl,?_⟩,a⟩;exact .inr ⟨h0,.inr ⟨hv,.inl ⟨t,rfl,rfl⟩⟩⟩
 have t:S.V.m≠0:=λq=>y (sgD_nz.2 q);refine zkk (I (Sr λ_ F=>zm rfl (zP rfl (zf rfl ?_))));refine WL.ev (Ev.fZ rfl rfl g rfl rfl) rfl ?_
 try simp only[oL]
 refine zm rfl ?_;refine WL.call hasF76 rfl rfl (c2j _ _ _ _ mode _ d (Z.q8 a) (bX l)) λv w5 p=>?_;obtain ⟨⟨xb,xe,rfl,hR⟩,f⟩:=p;rw[g7,nQ l] at hR;have a:=a.ta f;refine zx rfl rfl (zx rfl rfl (za rfl (za rfl (zz (F ?_)))));refine zr (zr2 rfl rfl rfl ?_);refine ⟨⟨_,_,rfl,?_⟩,a⟩;exact .inr ⟨h0,.inr ⟨hv,.inr ⟨t,hR⟩⟩⟩
theorem shMean_spec(b:Nat)(S:Sh)(mode n o:Int)(w:World)(g:ShM 91 w b S)(c3:S.wf)(hg:GW w)(M:0<=S.fin):Ret Tryz.prog 33 [.pointer (some ⟨b,0,none⟩),.int .i64 mode,.agg [.int .i64 n,.int .i64 o].toArray] w λu w'=>(∃ x e,u = .tuple [.float .f64 x,.int .i64 e].toArray/\c8q S mode n o x e)/\Chg [] w w':=by
 obtain ⟨rv,rq,i,d,f⟩:=g;obtain ⟨c9,r,a9,b0,b1⟩:=c3;obtain ⟨J,I,H,G,F,D⟩:=c9;have a:=crf w;have b3:=hg;have d8:0<=S.fin:=M;refine zE3 Tryz.func33 rfl ?_;refine Sr λ_ c2=>?_;refine zBh rfl rfl rfl a λb5 d4 k t d2 b2 a=>?_;have d:=d.q8 t;have f:=f.q8 t;have c7:b≠b5:=by have:=i.lt;omega
 have i:=i.q8 t;refine za rfl (za rfl (zz (c2 (zc λ_ c1=>Sr λ_ b9=>zm rfl (zm rfl (zg k rfl ?_))))));refine WL.call hasF72 rfl rfl (baq b S mode n o _ ⟨rv,rq,i,d,f⟩ ⟨⟨J,I,H,G,F,D⟩,r,a9,b0,b1⟩ (b3.q8 a)) λv w1 l=>?_;obtain ⟨rfl,h⟩:=l;have a:=a.ta h;have i:=i.q8 h;have k:=k.k0 h;have d:=d.q8 h;have f:=f.q8 h;refine za rfl (zz (b9 (Sr λ_ b8=>zm rfl (zN rfl rfl (zz (b8 ?_))))));refine zy rfl ?_ ?_<;>intro T<;>try simp only[qs] at T
 ·have C:shE S.s mode n o≠0:=T
  refine Sr λ_ b7=>zm rfl (za rfl (za rfl (zz (b7 ?_))));refine zr (zr2 rfl rfl rfl ?_);refine ⟨⟨_,_,rfl,?_⟩,a⟩;exact .inl ⟨C,rfl,rfl⟩
 have C:shE S.s mode n o=0:=by have:=T;omega
 have c8:0<=mode/\mode<=4:=Classical.byContradiction λq=>by unfold shE at C;rw[if_pos (λz=>q z.1)] at C;cases C
 refine zkk (c1 (zc λ_ a7=>?_));refine CW.cQ 11 rfl dZ λd1 Y g j=>?_;have a:=a.ta j;have i:=i.q8 j;have k:=k.k0 j;have d:=d.q8 j;have f:=f.q8 j;have y:=i;have U:=k;refine wh 0 rfl g (eM rfl) (wh 1 rfl g (eP rfl) (wh 2 rfl g (eF rfl) (wh 3 rfl g (λ_ p=>Ev.fZ rfl rfl (y.q8 p) rfl rfl) ?_)))
 try simp only[oL]
 refine wh 4 rfl g (λ_ p=>Ev.rZ rfl rfl (U.q8 p) rfl) ?_;refine WH.k7 5 rfl oR hasF73 rfl rfl (cpq S.s n o _ ⟨by omega,by omega,by omega,by omega,by omega,by omega⟩) λv w2 l=>?_;obtain ⟨rfl,h⟩:=l;have a8:=brq S.s n o;have a:=a.ta h;have i:=i.q8 h;have d:=d.q8 h;have f:=f.q8 h;have g:=g.trans h;refine ⟨g,?_⟩;refine wh 6 rfl g (eM rfl) (wh 7 rfl g (eX rfl rfl) (wh 8 rfl g (eX rfl rfl) (wh 9 rfl g (eA rfl) (wh 10 rfl g (eA rfl) ?_))));refine WH.done oR (Y _ _ _ ?_);refine a7 (zc λ_ a6=>CW.block (Sr λ_ a5=>zm rfl (za rfl (zz (a5 ?_)))));refine zy rfl ?_ ?_<;>intro R<;>try simp only[qs] at R
 ·obtain ⟨x,c5,d6,c4⟩ : ∃ x,lZ S.s n o = .some x/\(lZ S.s n o).isSome=true/\(lZ S.s n o).getD 0=x:=a8.resolve_right (λq=>by have:=R;rw[q.2] at this;exact Bool.false_ne_true this);rw[c4]
  refine Sr λ_ a4=>zm rfl (za rfl (za rfl (zz (a4 ?_))));refine zr (zr2 rfl rfl rfl ?_);refine ⟨⟨_,_,rfl,?_⟩,a⟩;exact .inr ⟨C,.inl ⟨x,c5,rfl,rfl⟩⟩
 have hv:lZ S.s n o = .none:=by
  rcases a8 with ⟨_,_,q2,_⟩|q
  · have:=R;rw[q2] at this;exact absurd this oD
  exact q.1
 refine Sr λ_ a3=>zm rfl ?_;refine WL.call hasF78 rfl rfl (akx b S _ ⟨rv,rq,i,d,f⟩ ⟨J,I,H,G,F,D⟩) λv w3 l=>?_;obtain ⟨rfl,h⟩:=l;have a:=a.ta h;have i:=i.q8 h;have d:=d.q8 h;have f:=f.q8 h;refine zq rfl rfl (za rfl (zz (a3 ?_)));refine zy rfl ?_ ?_<;>intro Q<;>try simp only[qs] at Q
 ·have B:S.fin=0:=Q
  refine Sr λ_ a2=>za rfl (za rfl (zz (a2 ?_)));refine zr (zr2 rfl rfl rfl ?_);refine ⟨⟨_,_,rfl,?_⟩,a⟩;exact .inr ⟨C,.inr ⟨hv,.inl ⟨B,rfl,rfl⟩⟩⟩
 have B:S.fin≠0:=Q;refine Sr λ_ a1=>zm rfl (zP rfl (zf rfl ?_));refine WL.ev (Ev.fZ rfl rfl i rfl rfl) rfl ?_
 try simp only[oL]
 refine WL.call hasF74 rfl rfl (akq _ _ _ _ _ d) λv w4 l=>?_;obtain ⟨rfl,h⟩:=l;rw[g7];have a:=a.ta h;have i:=i.q8 h;have d:=d.q8 h;have f:=f.q8 h;refine zq rfl rfl (za rfl (zz (a1 ?_)));refine zy rfl ?_ ?_<;>intro O<;>try simp only[qs] at O
 ·have A:S.V.m=0:=sgD_nz.1 O
  refine Sr λ_ a0=>zm rfl (zP rfl (zf rfl ?_));refine WL.ev (Ev.fZ rfl rfl i rfl rfl) rfl ?_
  try simp only[oL]
  refine zm rfl ?_;refine WL.call hasF75 rfl rfl (b3j S.s mode _ ⟨by omega,by omega,by omega,by omega,by omega,by omega⟩) λv w5 l=>?_;obtain ⟨rfl,h⟩:=l;have a:=a.ta h;refine za rfl (za rfl (zz (a0 ?_)));refine zr (zr2 rfl rfl rfl ?_);refine ⟨⟨_,_,rfl,?_⟩,a⟩;exact .inr ⟨C,.inr ⟨hv,.inr ⟨B,.inl ⟨A,rfl,rfl⟩⟩⟩⟩
 have A:S.V.m≠0:=λq=>O (sgD_nz.2 q);refine zkk (a6 (zc λ_ Z=>?_));refine CW.cQ 12 rfl dZ λd0 X g j=>?_;have a:=a.ta j;have i:=i.q8 j;have d:=d.q8 j;have f:=f.q8 j;have y:=i;refine wh 0 rfl g (eM rfl) (wh 1 rfl g (eP rfl) (wh 2 rfl g (eF rfl) (wh 3 rfl g (λ_ p=>Ev.fZ rfl rfl (y.q8 p) rfl rfl) ?_)))
 try simp only[oL]
 refine wh 4 rfl g (eM rfl) (wh 6 rfl g (eM rfl) ?_);refine WH.k7 5 rfl oR hasF78 rfl rfl (akx b S _ ⟨rv,rq,i,d,f⟩ ⟨J,I,H,G,F,D⟩) λv w6 l=>?_;obtain ⟨rfl,h⟩:=l;have a:=a.ta h;have d:=d.q8 h;have g:=g.trans h;refine ⟨g,?_⟩;refine WH.k7 7 rfl oR hasF101 rfl rfl (mOf_spec _ _ _ _ S.fin mode _ d (b3.q8 a) (bX r)) λv w7 l=>?_;obtain ⟨⟨xb,xe,rfl,hR⟩,h⟩:=l;rw[g7] at hR;have a:=a.ta h;have g:=g.trans h;refine ⟨g,?_⟩;refine wh 8 rfl g (eX rfl rfl) (wh 9 rfl g (eX rfl rfl) (wh 10 rfl g (eA rfl) (wh 11 rfl g (eA rfl) ?_)));refine WH.done oR (X _ _ _ ?_);refine Z ?_;refine zr (zr2 rfl rfl rfl ?_);refine ⟨⟨_,_,rfl,?_⟩,a⟩;refine .inr ⟨C,.inr ⟨hv,.inr ⟨B,.inr ⟨A,of_quot r A c8 (by unfold Sh.fin at *;omega) (by unfold Sh.fin;omega) hR⟩⟩⟩⟩
theorem deq(b:Nat)(S:Sh)(x:Nat)(w:World)(T:ShM 91 w b S)(n:S.wf)(R:GW w):Ret Tryz.prog 102 [.pointer (some ⟨b,0,none⟩),.float .f64 x] w λu w'=>u = .tuple [.float .f64 (bxx S x).1,.int .i64 (bxx S x).2].toArray/\Chg [] w w':=by
 obtain ⟨M,O,J,A,B⟩:=T;obtain ⟨z,F,G,H,I⟩:=n;obtain ⟨y,t,r,q,p,o⟩:=z;have a:=crf w;have Q:=R;refine zE2 Tryz.func102 rfl ?_;refine Sr λ_ m=>za rfl (za rfl (zz (m (zc λ_ l=>CW.block (Sr λ_ k=>zm rfl (zP rfl (zf rfl (zf rfl (zl J rfl rfl (zq rfl rfl (za rfl (zz (k ?_)))))))))))));refine zy rfl ?_ ?_<;>intro e<;>try simp only[qs] at e
 ·have h:S.s.al=0:=by have:=e;omega
  refine Sr λ_ j=>za rfl (za rfl (zz (j ?_)));refine zr (zr2 rfl rfl rfl ?_);refine ⟨?_,a⟩;rw[show bxx S x=(0,3) from if_pos h]
 have h : ¬S.s.al=0:=by have:=e;omega
 refine Sr λ_ i=>zm rfl ?_;refine WL.call hasF47 rfl rfl (asj b S _ ⟨M,O,J,A,B⟩ ⟨y,t,r,q,p,o⟩) λv X D=>?_;obtain ⟨rfl,U⟩:=D;have a:=a.ta U;refine zT rfl (za rfl (zz (i ?_)));refine zy rfl ?_ ?_<;>intro d<;>try simp only[qs] at d
 ·have C : ¬S.some:=by simpa using d
  refine Sr λ_ g=>?_;refine WL.call hasF77 rfl rfl (ccq _) λv V D=>?_;obtain ⟨rfl,rfl⟩:=D;refine za rfl (za rfl (zz (g ?_)));refine zr (zr2 rfl rfl rfl ?_);refine ⟨?_,a⟩;rw[show bxx S x=(9221120237041090560,0) from (if_neg h).trans (if_pos C)]
 have C : ¬¬S.some:=by simpa using d
 refine zkk (l (Sr λ_ f=>zm rfl (za rfl (za rfl (zz (f ?_))))));refine zr (zr2 rfl rfl rfl ?_);refine ⟨?_,a⟩;rw[show bxx S x=(x,0) from (if_neg h).trans (if_neg C)]
theorem Least_spec(b:Nat)(S:Sh)(w:World)(B:ShM 91 w b S)(j:S.wf)(A:GW w):Ret Tryz.prog 34 [.pointer (some ⟨b,0,none⟩)] w λu w'=>u = .tuple [.float .f64 (bxx S S.lo).1,.int .i64 (bxx S S.lo).2].toArray/\Chg [] w w':=by
 obtain ⟨y,z,x,s,t⟩:=B;obtain ⟨q,d,e,f,g⟩:=j;obtain ⟨p,o,n,m,l,k⟩:=q;have a:=crf w;have r:=A;refine zE1 Tryz.func34 rfl ?_;refine Sr λ_ i=>za rfl (za rfl (zz (i (Sr λ_ h=>zm rfl (zm rfl (zP rfl (zf rfl (zl x rfl rfl ?_))))))));refine WL.call hasF102 rfl rfl (deq b S S.lo _ ⟨y,z,x,s,t⟩ ⟨⟨p,o,n,m,l,k⟩,d,e,f,g⟩ (r.q8 a)) λv F D=>?_;obtain ⟨rfl,C⟩:=D;have a:=a.ta C;refine zx rfl rfl (zx rfl rfl (za rfl (za rfl (zz (h ?_)))));refine zr (zr2 rfl rfl rfl ?_);exact ⟨rfl,a⟩
theorem Most_spec(b:Nat)(S:Sh)(w:World)(B:ShM 91 w b S)(j:S.wf)(A:GW w):Ret Tryz.prog 35 [.pointer (some ⟨b,0,none⟩)] w λu w'=>u = .tuple [.float .f64 (bxx S S.hi).1,.int .i64 (bxx S S.hi).2].toArray/\Chg [] w w':=by
 obtain ⟨y,z,x,s,t⟩:=B;obtain ⟨q,d,e,f,g⟩:=j;obtain ⟨p,o,n,m,l,k⟩:=q;have a:=crf w;have r:=A;refine zE1 Tryz.func35 rfl ?_;refine Sr λ_ i=>za rfl (za rfl (zz (i (Sr λ_ h=>zm rfl (zm rfl (zP rfl (zf rfl (zl x rfl rfl ?_))))))));refine WL.call hasF102 rfl rfl (deq b S S.hi _ ⟨y,z,x,s,t⟩ ⟨⟨p,o,n,m,l,k⟩,d,e,f,g⟩ (r.q8 a)) λv F D=>?_;obtain ⟨rfl,C⟩:=D;have a:=a.ta C;refine zx rfl rfl (zx rfl rfl (za rfl (za rfl (zz (h ?_)))));refine zr (zr2 rfl rfl rfl ?_);exact ⟨rfl,a⟩
def accD(x y:Dy):Nat->Dy
  | 0=>cJ 1
  | 1=>(gX (cJ 1) x).getD Dy.zero
  | _=>(gX ((gX (cJ 1) x).getD Dy.zero) y).getD Dy.zero
def timD(x y:Dy):Dy:=accD x y 2
theorem mJ{x y d:Dy}(h:gX x y = .some d):d.ok:=by
  unfold gX at h;split at h
  · cases h
  · exact jZ h
theorem dax(x y:Dy)(i:Nat):(accD x y i).ok:=by
  match i with
  | 0=>exact xZ oD
  | 1=>exact tZ λd h=>mJ h
  | (_+2)=>exact tZ λd h=>mJ h
theorem sel_nu{w:World}{x y b:Dy}{e d a:Value}(h:(b=x/\a=e)\/(b=y/\a=d))(g:NU w e (wd x.m))(f:NU w d (wd y.m)):NU w a (wd b.m):=by
  rcases h with ⟨rfl,rfl⟩|⟨rfl,rfl⟩
  · exact g
  · exact f
structure KTm(b b2 b3:Nat)(x y:Dy)(rx ry:Value)(w0:World)(i:Nat)(w:World):Prop where
  hi:i<=2
  hB:BK w b 89 [.bool x.neg,rx,.int .i64 x.e,.bool y.neg,ry,.int .i64 y.e]
  h2:BK w b2 89 [.bool false,.slice none 0 0,.int .i64 0]
  h3 : ∃ r,BK w b3 89 [.bool (accD x y i).neg,r,.int .i64 (accD x y i).e]/\NU w r (wd (accD x y i).m)
  hx:NU w rx (wd x.m)
  hy:NU w ry (wd y.m)
  ch:Chg [] w0 w
theorem mtimes_spec(b:Nat)(x y:Dy)(T R:Value)(w:World)(n:BK w b 89 [.bool x.neg,T,.int .i64 x.e,.bool y.neg,R,.int .i64 y.e])(h:NU w T (wd x.m))(g:NU w R (wd y.m))(a4:x.ok)(a3:y.ok)(hg:GW w):Ret Tryz.prog 219 [.slice (some ⟨b,0,none⟩) 2 2] w λu w'=>DY w' u (timD x y)/\Chg [] w w':=by
 have a:=crf w;have a9:=hg;refine zE1 Tryz.func219 rfl ?_;refine Sr λ_ c1=>?_;refine zAh rfl rfl a λb2 d8 d B d4 a7 a=>?_;have h:=h.q8 B;have g:=g.q8 B;have c4:b≠b2:=by have:=n.lt;omega
 have n:=n.q8 B;refine zz (c1 (Sr λ_ b9=>?_));refine WL.call hasF144 rfl rfl (bdj 1 _ (a9.q8 a) oD) λv w1 h'=>?_;obtain ⟨⟨r1,rfl,C⟩,z⟩:=h';have a:=a.ta z;have n:=n.q8 z;have d:=d.k0 z;have h:=h.q8 z;have g:=g.q8 z;refine zAh rfl rfl a λb3 d7 f p a8 a6 a=>?_;have h:=h.q8 p;have g:=g.q8 p;have C:=C.q8 p;have c3:b≠b3:=by have:=n.lt;omega
 have n:=n.q8 p;have b4:=zdd d.lt a8;have d:=d.k0 p;refine zss rfl rfl ao f rfl λd3 q l=>?_;(try simp only[qt] at q);have a:=a.s1 l;have n:=n.kq l;have d:=d.kq l;have h:=h.q9 f l an;have g:=g.q9 f l an;have C:=C.q9 f l an;have f:=q;refine zz (b9 (zc λ_ b8=>Sr λ_ b7=>zm rfl (zn rfl (zm rfl (zz (b7 (CW.block ?_)))))));refine CW.loop (S:=λi:Nat=>[(2,.pointer (some ⟨b2,0,none⟩)),(3,.pointer (some ⟨b3,0,none⟩)),(7,.slice (some ⟨b,0,none⟩) 2 2),(8,.int .i64 2),(9,.int .i64 (i:Int))]) (Inv:=KTm b b2 b3 x y T R w) (mu:=λi=>2-i) (0) ?_ ?_ ?_
 ·exact ⟨by decide,n,d,⟨r1,f,C⟩,h,g,a⟩
 ·exact SLp
 rintro i wr ⟨hi,n,d,⟨r,f,s⟩,h,g,a⟩;refine Sr λ_ b6=>zL rfl rfl (zz (b6 (zc λ_ a1=>?_)));refine zy rfl ?_ ?_<;>intro c6<;>try simp only[qs] at c6
 ·obtain ⟨D,U,c5,F,G,a2⟩ : ∃ D U,(List.drop (0+((i:Nat):Int).toNat*3) [.bool x.neg,T,.int .i64 x.e,.bool y.neg,R,.int .i64 y.e]).take 3=[.bool D.neg,U,.int .i64 D.e]/\((D=x/\U=T)\/(D=y/\U=R))/\D.ok/\accD x y (i+1)=(gX (accD x y i) D).getD Dy.zero:=by
   have O:i=0\/i=1:=by omega
   rcases O with rfl|rfl
   · exact ⟨x,T,rfl,.inl ⟨rfl,rfl⟩,a4,rfl⟩
   exact ⟨y,R,rfl,.inr ⟨rfl,rfl⟩,a3,rfl⟩
  have H:=dax x y i;have e1:=(sel_nu F h g).one;refine zkk (a1 (zc λ_ a0=>CW.block (Sr λ_ Z=>?_)));refine WL.ev (Ev.indexAddr rfl rfl oO oO) rfl ?_;refine WL.ev (Ev.fZ (cs:=[.bool D.neg,U,.int .i64 D.e]) rfl rfl n c5 rfl) rfl ?_;refine zAh rfl rfl a λb5 d6 t o I a5 a=>?_;have h:=h.q8 o;have g:=g.q8 o;have s:=s.q8 o;have c2:b≠b5:=by have:=n.lt;omega
  have n:=n.q8 o;have b1:=zdd d.lt I;have d:=d.k0 o;have b0:=zdd f.lt I;have f:=f.k0 o;refine zss rfl rfl ao t rfl λd2 J j=>?_;(try simp only[qt] at J);have a:=a.s1 j;have n:=n.kq j;have d:=d.kq j;have f:=f.kq j;have h:=h.q9 t j an;have g:=g.q9 t j an;have s:=s.q9 t j an;have t:=J;refine zz (Z ?_);refine zR λ_ X=>?_;refine zg f rfl (zg t rfl ?_);refine WL.call hasF71 rfl rfl (uX _ _ _ _ _ _ _ _ _ s (sel_nu F h g) (a9.q8 a) (bX H) (bX G)) λv w2 h'=>?_;obtain ⟨hD,z⟩:=h';rw[jJ H G] at hD;obtain ⟨rn,kn,rfl,Q⟩:=hD.cells;have a:=a.ta z;have n:=n.q8 z;have d:=d.k0 z;have f:=f.k0 z;have h:=h.q8 z;have g:=g.q8 z;refine zm rfl (zx rfl rfl (zx rfl rfl ?_));refine zss rfl rfl ao f rfl λd1 q k=>?_;(try simp only[qt] at q);have a:=a.s1 k;have n:=n.kq k;have d:=d.kq k;have h:=h.q9 f k an;have g:=g.q9 f k an;have Q:=Q.q9 f k an;have f:=q;refine WL.nil (X _ _ _ (a0 ?_));refine zS λ_ V=>?_;(first|refine zi rfl rfl ?_|refine zo rfl rfl ?_);refine zm rfl (zz (V ?_));refine ⟨rfl,i+1,?_,?_,?_⟩
  ·exact SLp
  ·exact ⟨by omega,n,d,⟨rn,by rw[a2];exact f,by rw[a2];exact Q⟩,h,g,a⟩
  show 2-(i+1)<2-i;omega
 have O:i=2:=by omega
 subst O;refine CW.exit ?_;refine b8 (Sr λ_ Y=>zg f rfl ?_);refine zss rfl rfl ao d rfl λd0 M A=>?_;(try simp only[qt] at M);have a:=a.s1 A;have s:=s.q9 d A an;have d:=M;refine zz (Y ?_);refine zr (k9.qJ rfl (aZ.cell rfl (d.fJ rfl rfl)) ?_);exact ⟨⟨_,rfl,s⟩,a⟩
theorem DR.bkj{w:World}{u:Value}{x:Option Dy}(h:DR w u x): ∃ (r:Value) (k:Int),u = .tuple [.agg [.bool (x.getD Dy.zero).neg,r,.int .i64 (x.getD Dy.zero).e].toArray,.int .i64 k].toArray/\NU w r (wd (x.getD Dy.zero).m)/\((k=0/\∃ d,x = .some d)\/(k=2/\x = .none)):=by
  rcases h with ⟨r,d,rfl,rfl,a⟩|⟨rfl,rfl⟩
  · exact ⟨r,0,rfl,a,.inl ⟨rfl,d,rfl⟩⟩
  · exact ⟨_,2,rfl,by rw[show (Option.none.getD Dy.zero).m=0 from rfl,fX];exact NU.nil,.inr ⟨rfl,rfl⟩⟩
def crj(x y:Dy):Option Dy:=bix yQ (.some x) (cX (!y.neg) y.m y.e)
def momR(n:Int)(V Q:Dy)(less mode:Int)(b:Nat)(e:Int):Prop:=
  (¬((0<=mode/\mode<=4)/\(less=0\/less=1)/\1<=n/\n<=1099511627776)/\b=0/\e=1)\/(((0<=mode/\mode<=4)/\(less=0\/less=1)/\1<=n/\n<=1099511627776)/\
    (((gX (cJ n) Q = .none\/gX V V = .none)/\b=0/\e=2)\/∃ x y,gX (cJ n) Q = .some x/\gX V V = .some y/\((crj x y = .none/\b=0/\e=2)\/∃ v,crj x y = .some v/\
      ((n<=less/\b=0/\e=3)\/(less<n/\bwq v.neg (timD (cJ n) (cJ (n-less))).neg v.m (timD (cJ n) (cJ (n-less))).m v.e (timD (cJ n) (cJ (n-less))).e mode b e)))))
theorem momMay_spec(mode a:Int)(w:World):Ret Tryz.prog 143 [.int .i64 mode,.int .i64 a] w λu w'=>u = .bool (decide ((0<=mode/\mode<=4)/\(a=0\/a=1)))/\w=w':=by
 refine zE2 Tryz.func143 rfl ?_;refine Sr λ_ d=>za rfl (zz (d (Sr λ_ b=>zm rfl ?_)));refine WL.ev (Ev.geq rfl rfl) rfl ?_;refine zm rfl ?_;refine zb ?_ ?_<;>intro g<;>try simp only[qs] at g
 ·refine zw rfl (zm rfl (zw rfl (zQ rfl rfl (zt rfl rfl (zm rfl ?_)))));refine zb ?_ ?_<;>intro f<;>try simp only[qs] at f
  ·refine zw rfl (zm rfl (zw rfl (zq rfl rfl (zw rfl (zm rfl ?_)))));refine zb ?_ ?_<;>intro e<;>try simp only[qs] at e
   ·refine zv rfl (zv rfl (zw rfl (zt rfl rfl (zt rfl rfl (za rfl (zz (b ?_)))))));refine zr (zr1 rfl rfl ?_);refine ⟨congrArg Value.bool ?_,rfl⟩
    first|(simp_all;done)|(simp;omega)|(refine decide_eq_decide.2 ?_;omega)|(simp_all;omega)
   refine zw rfl (zm rfl (zw rfl (zq rfl rfl (zw rfl (ze rfl rfl (zt rfl rfl (za rfl (zz (b ?_)))))))));refine zr (zr1 rfl rfl ?_);refine ⟨congrArg Value.bool ?_,rfl⟩
   first|(simp_all;done)|(simp;omega)|(refine decide_eq_decide.2 ?_;omega)|(simp_all;omega)
  refine zv rfl (zv rfl (zv rfl (zu rfl (zu rfl (zv rfl (ze rfl rfl (za rfl (zz (b ?_)))))))));refine zr (zr1 rfl rfl ?_);refine ⟨congrArg Value.bool ?_,rfl⟩
  first|(simp_all;done)|(simp;omega)|(refine decide_eq_decide.2 ?_;omega)|(simp_all;omega)
 refine zv rfl (zv rfl (ze rfl rfl (zm rfl (zv rfl (zv rfl (zv rfl (zu rfl (zu rfl (zv rfl (ze rfl rfl (za rfl (zz (b ?_)))))))))))));refine zr (zr1 rfl rfl ?_);refine ⟨congrArg Value.bool ?_,rfl⟩
 first|(simp_all;done)|(simp;omega)|(refine decide_eq_decide.2 ?_;omega)|(simp_all;omega)
theorem by_spec(x:Dy)(H:Value)(n d:Int)(w:World)(b:NU w H (wd x.m))(a3:x.ok)(hn:1<=n/\n<=1099511627776)(hl:0<=d/\d<=1)(hg:GW w):Ret Tryz.prog 147 [.agg [.bool x.neg,H,.int .i64 x.e].toArray,.int .i64 n,.int .i64 d] w λu w'=>(∃ rd,u = .agg [.bool x.neg,H,.int .i64 x.e,.bool (timD (cJ n) (cJ (n-d))).neg,rd,.int .i64 (timD (cJ n) (cJ (n-d))).e].toArray/\NU w' rd (wd (timD (cJ n) (cJ (n-d))).m)/\NU w' H (wd x.m))/\Chg [] w w':=by
 have a:=crf w;have z:=hg;have a2:=b.one;refine zE3 Tryz.func147 rfl ?_;refine Sr λ_ O=>?_;refine zBh rfl rfl rfl a λb3 Z k D X C a=>?_;have b:=b.q8 D;refine WL.iZ (l:=[.bool false,.slice none 0 0,.int .i64 0,.bool false,.slice none 0 0,.int .i64 0]) rfl rfl λb6 Y f p t=>?_;have B:=Nat.le_trans a.size t;have a:=a.ta p;have b:=b.q8 p;have I:=zdd k.lt t;have k:=k.k0 p;refine zz (O (zc λ_ M=>?_));refine CW.gJ 10 11 rfl dZ λa1 J h q=>?_;have a:=a.ta q;have k:=k.k0 q;have f:=f.k0 q;have b:=b.q8 q;have A:=k;refine wk 0 rfl h (λ_ Q=>Ev.rZ rfl rfl (A.q8 Q) rfl) (wk 1 rfl h (eM rfl) (wk 3 rfl h (eM rfl) (wk 4 rfl h (eM rfl) (wk 5 rfl h (λ_ _=>Ev.dX rfl rfl oO) ?_))));refine WK.k7 2 rfl oR hasF144 rfl rfl (bdj n _ (z.q8 a) oO) λv w1 G=>?_;obtain ⟨⟨V,rfl,o⟩,j⟩:=G;have a5:=o.one;have a:=a.ta j;have f:=f.k0 j;have b:=b.q8 j;have h:=h.trans j;refine ⟨h,?_⟩;refine WK.k7 6 rfl oR hasF144 rfl rfl (bdj (n-d) _ (z.q8 a) oO) λv w2 G=>?_;obtain ⟨⟨U,rfl,r⟩,j⟩:=G;have a4:=r.one;have a:=a.ta j;have f:=f.k0 j;have b:=b.q8 j;have o:=o.q8 j;have h:=h.trans j;refine ⟨h,?_⟩;refine WK.buildSlice 7 (m:=2) (cs:=[.bool (cJ n).neg,V,.int .i64 (cJ n).e,.bool (cJ (n-d)).neg,U,.int .i64 (cJ (n-d)).e]) rfl oR oD oD rfl oR rfl λR a0 g=>?_;have h:=h.trans g.chg;refine ⟨h,?_⟩;have F:=g.at_;have a:=a.trans g.chg;have b:=b.q8 g.chg;have o:=o.q8 g.chg;have r:=r.q8 g.chg;have f:=f.q8 g.chg;refine WK.k7 8 rfl oR hasF219 rfl rfl (mtimes_spec R (cJ n) (cJ (n-d)) V U _ F o r (xZ oO) (xZ oO) (z.q8 a)) λv w3 G=>?_;obtain ⟨⟨rd,rfl,s⟩,j⟩:=G;have a6:=s.one;have a:=a.ta j;have f:=f.k0 j;have b:=b.q8 j;have h:=h.trans j;refine ⟨h,?_⟩;refine wk 9 rfl h (λ_ _=>Ev.build (vs:=_) (cs:=[_,_,_,_,_,_]) rfl rfl) ?_;refine WK.nZ 10 rfl oR oR rfl rfl rfl ao f oS rfl λT y i=>?_;(try simp only[qt] at y);have a:=a.s1 i;have b:=b.q9 f i an;have s:=s.q9 f i an;have f:=y;refine WK.done oR (J _ _ _ ?_);refine M ?_;refine zr (k9.qJ rfl (aZ.cell rfl (f.fJ rfl rfl)) ?_);exact ⟨⟨rd,rfl,s,b⟩,a⟩
end
end Go.Proofs.YtomlallhlakhfaaGreatDoor