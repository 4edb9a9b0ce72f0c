/- Part 5 of what the proof rests on. No condition. -/
import Derived.Test.YtomlallhlakhfaaGreatDoorZd4
import Derived.ArgAppend
set_option linter.unusedVariables false
set_option linter.unusedSimpArgs false
set_option maxRecDepth 100000
set_option maxHeartbeats 4000000
namespace Go.Proofs.YtomlallhlakhfaaGreatDoor
section
open Go Sx Wd
theorem djq(x y:Dy)(vn vd:Value)(mode:Int)(w:World)(hm:0<=mode/\mode<=4)(F:NU w vn (wd x.m))(G:NU w vd (wd y.m))(hx:x.ok)(hy:y.ok):Ret Tryz.prog 237 [.agg [.int .i64 53,.int .i64 (-1074),.int .u64 9218868437227405312].toArray,.agg [.bool x.neg,vn,.int .i64 x.e,.bool y.neg,vd,.int .i64 y.e].toArray,.bool false,.int .i64 mode] w λu w'=>∃ r:Nat,u = .int .u64 (r:Int)/\lZ (dyA x.m (x.e-y.e)) (y.m*dyB (x.e-y.e)) x.neg mode r/\r<=9218868437227405312/\Chg [] w w':=by
 have c:=crf w;have i7:=F.one;have i8:=G.one;obtain ⟨A,hA⟩ : ∃ A,A=(dyA x.m (x.e-y.e)):=⟨_,rfl⟩;obtain ⟨B,hB⟩ : ∃ B,B=(y.m*dyB (x.e-y.e)):=⟨_,rfl⟩;rw[<- hA,<- hB];refine zE4 Tryz.func237 rfl ?_;refine Sr λ_ h5=>?_;refine zBh rfl rfl rfl c λb4 k5 l X k1 f6 c=>?_;have F:=F.q5 X;have G:=G.q5 X;refine zBh rfl rfl rfl c λb5 k4 k I f7 f5 c=>?_;have F:=F.q5 I;have G:=G.q5 I;have g2:=zdd l.lt f7;have l:=l.k0 I;refine za rfl (zz (h5 (Sr λ_ h4=>za rfl (zz (h4 (Sr λ_ h3=>zf rfl (zl l rfl rfl (za rfl (zz (h3 (zc λ_ h2=>CW.block ?_)))))))))));refine CW.loop (S:=λg:Nat×Nat=>[(2,.bool false),(3,.int .i64 mode),(4,.pointer (some ⟨b4,0,none⟩)),(5,.pointer (some ⟨b5,0,none⟩)),(9,.int .u64 (g.1:Int)),(10,.int .u64 (g.2:Int))]) (Inv:=KNb x y A B w b4 b5 vn vd) (mu:=λg=>g.2-g.1) ((0,9218868437227405312)) ?_ ?_ ?_
 ·exact ⟨by decide,Nat.le_refl _,by rw[show nz 0=0 from rfl,Nat.mul_zero,Nat.zero_mul];exact Nat.zero_le _,.inr rfl,l,k,F,G,c⟩
 ·exact SLp
 rintro ⟨f,t⟩ wr ⟨i1,ht,p,a1,l,k,F,G,c⟩;dsimp only at i1 ht p a1;dsimp only;refine zc λ_ h1=>Sr λ_ h0=>zm rfl (zm rfl ?_)
 first|refine WL.ev (Ev.bdx rfl rfl oO oO) rfl ?_|refine WL.ev (Ev.cyq rfl rfl oO) rfl ?_
 refine zG rfl rfl (zz (h0 ?_));refine zy rfl ?_ ?_<;>intro i3<;>try simp only[qs] at i3
 ·have h8:f<(f+t)/2:=by omega
  have h7:(f+t)/2<t:=by omega
  refine zkk (h1 (CW.block (Sr λ_ f3=>zm rfl (zm rfl ?_))))
  first|refine WL.ev (Ev.iX rfl rfl oO) rfl ?_|refine WL.ev (Ev.aaq rfl rfl) rfl ?_
  refine WL.ev (Ev.djj (b:=2) rfl rfl oO (iZ oO).2) rfl ?_;refine za rfl (zz (f3 (Sr λ_ f2=>zg l rfl (zm rfl ?_))));refine WL.call hasF226 rfl rfl (qZ ((f+t)/2) _ oO) λv w1 Q=>?_;obtain ⟨⟨va,rfl,i5⟩,s⟩:=Q;have c:=c.ta s;have l:=l.k0 s;have k:=k.k0 s;have F:=F.q5 s;have G:=G.q5 s;refine zm rfl (zx rfl rfl (zx rfl rfl (za rfl (za rfl (zz (f2 (Sr λ_ f1=>zm rfl (zm rfl (zg k rfl (zm rfl ?_))))))))));refine WL.call hasF257 rfl rfl (a3j _ _ _ _ _ _ _ _ _ _ _ _ i5 (by have:=a0q ((f+t)/2) oO;omega) (by have:=bfq ((f+t)/2);omega) F G hx.e hy.e hx.len hy.len) λv w2 Q=>?_;obtain ⟨rfl,s⟩:=Q;rw[g6,g6,g6,cmp_num oO,<- hB,<- hA];have c:=c.ta s;have l:=l.k0 s;have k:=k.k0 s;have F:=F.q5 s;have G:=G.q5 s;refine zQ rfl rfl (zz (f1 ?_));refine zy rfl ?_ ?_<;>intro g0<;>try simp only[qs] at g0
  ·have a0:2*nz ((f+t)/2)*B<=A:=bhq.1 g0
   refine zS λ_ b8=>zm rfl (za rfl (zz (b8 ?_)));refine ⟨rfl,((f+t)/2,t),?_,?_,?_⟩
   ·exact SLp
   ·exact ⟨h7,ht,a0,a1,l,k,F,G,c⟩
   show t-(f+t)/2<t-f;omega
  have a0:A<2*nz ((f+t)/2)*B:=Nat.lt_of_not_le λq=>by have:=bhq.2 q;omega
  refine zS λ_ b7=>zm rfl (za rfl (zz (b7 ?_)));refine ⟨rfl,(f,(f+t)/2),?_,?_,?_⟩
  ·exact SLp
  ·exact ⟨h8,by dsimp only;omega,p,.inl a0,l,k,F,G,c⟩
  show (f+t)/2-f<t-f;omega
 have et:t=f+1:=by omega
 subst et;have j:f<9218868437227405312:=by omega
 have n:=a1;refine CW.exit ?_;refine h2 (Sr λ_ f0=>zg l rfl (zm rfl ?_));refine WL.call hasF226 rfl rfl (qZ (f) _ oO) λv w3 Q=>?_;obtain ⟨⟨vc,rfl,i4⟩,s⟩:=Q;have c:=c.ta s;have l:=l.k0 s;have k:=k.k0 s;have F:=F.q5 s;have G:=G.q5 s;refine zm rfl (zx rfl rfl (zx rfl rfl (za rfl (za rfl (zz (f0 (zc λ_ e9=>Sr λ_ e8=>zm rfl (zm rfl (zg k rfl (zm rfl ?_))))))))));refine WL.call hasF257 rfl rfl (a3j _ _ _ _ _ _ _ _ _ _ _ _ i4 (by have:=a0q (f) oO;omega) (by have:=bfq (f);omega) F G hx.e hy.e hx.len hy.len) λv w4 Q=>?_;obtain ⟨rfl,s⟩:=Q;rw[g6,g6,g6,cmp_num oO,<- hB,<- hA];have c:=c.ta s;have l:=l.k0 s;have k:=k.k0 s;have F:=F.q5 s;have G:=G.q5 s;refine zq rfl rfl (zz (e8 ?_));refine zy rfl ?_ ?_<;>intro a4<;>try simp only[qs] at a4
 ·have he:=bkx.1 a4
  refine Sr λ_ e7=>zm rfl (za rfl (zz (e7 ?_)));refine zr (zr1 rfl rfl ?_);exact ⟨f,rfl,near_eq j n he,by omega,c⟩
 have C:2*nz f*B≠A:=λq=>a4 (bkx.2 q);have l0:=ctj f;obtain ⟨d,i2⟩ : ∃ d:Nat,(d:Int)=pZ (f+1)-pZ f:=⟨(pZ (f+1)-pZ f).toNat,by omega⟩;refine zkk (e9 (Sr λ_ e6=>zg l rfl (zm rfl (zg k rfl (zm rfl ?_)))));refine WL.call hasF258 rfl rfl (r11half_spec f _ _ _ _ _ _ _ _ _ j F G hx.e hy.e hx.len hy.len) λv w5 Q=>?_;obtain ⟨rfl,s⟩:=Q;rw[g6,g6,show (pZ (f+1)-pZ f).toNat=d by omega,cmp_mid oO i2,<- hB,<- hA];obtain ⟨M,hM⟩ : ∃ M,M=(nz f+nz (f+1))*B:=⟨_,rfl⟩;rw[<- hM];have f4:=bhq (a:=M) (b:=A);have h6:=bkx (a:=M) (b:=A);obtain ⟨h,hh⟩ : ∃ h,h=sgn M A:=⟨_,rfl⟩;rw[<- hh] at f4 h6;rw[<- hh];have c:=c.ta s;have k:=k.k0 s;refine za rfl (zz (e6 (Sr λ_ e5=>za rfl (zz (e5 (zc λ_ z=>Sr λ_ e4=>zm rfl (zz (e4 (CW.block (Sr λ_ e3=>zq rfl rfl (za rfl (zz (e3 ?_)))))))))))));refine zy rfl ?_ ?_<;>intro f9<;>try simp only[qs] at f9
 ·have D:mode=0:=f9
  refine zR λ_ H=>?_;refine zm rfl (zL rfl rfl (zm rfl ?_));refine zb ?_ ?_<;>intro i0<;>try simp only[qs] at i0
  ·have i:upM mode x.neg f A ((nz f+nz (f+1))*B)=true:=by
    rw[<- hM,D,b2j,decide_eq_true (show M<A by omega)];rfl
   refine zv rfl (zv rfl (zv rfl (zu rfl (zu rfl (zu rfl (zv rfl (zt rfl rfl (za rfl ?_))))))));refine WL.nil (H _ _ _ (z ?_));refine zc λ_ e2=>Sr λ_ e1=>zm rfl (zz (e1 ?_));refine CW.nZ rfl ?_;refine zR λ_ b6=>?_;refine zm rfl ?_
   first|refine WL.ev (Ev.iX (b:=1) rfl rfl oO) rfl ?_|refine WL.ev (Ev.aaq (b:=1) rfl rfl) rfl ?_
   refine za rfl ?_;refine WL.nil (b6 _ _ _ (e2 ?_));refine Sr λ_ e0=>zm rfl (za rfl (zz (e0 ?_)));refine zr (zr1 rfl rfl ?_);exact ⟨f+1,rfl,pX j p n C (on:=true) (by first|exact i|exact i.trans o) rfl,by omega,c⟩
  refine zw rfl (zm rfl (zw rfl (zq rfl rfl (zw rfl (zm rfl ?_)))));refine zb ?_ ?_<;>intro h9<;>try simp only[qs] at h9
  ·have i:upM mode x.neg f A ((nz f+nz (f+1))*B)=decide (f%2=1):=by
    rw[<- hM,D,b2j,decide_eq_false (show ¬M<A by omega),decide_eq_true (show M=A by omega)];simp
   refine zw rfl (zm rfl (zw rfl ?_));refine WL.ev (Ev.dfx (b:=2) rfl rfl oO) rfl ?_;refine zw rfl (zq rfl rfl ?_);rw[show decide (((f%2:Nat):Int)=1)=decide (f%2=1) from decide_eq_decide.2 oO];refine zw rfl (zt rfl rfl (ze rfl rfl (za rfl ?_)));refine WL.nil (H _ _ _ (z ?_));refine zc λ_ V=>Sr λ_ d9=>zm rfl (zz (d9 ?_));refine zy rfl ?_ ?_<;>intro a3<;>try simp only[qs] at a3
   ·have o:=decide_eq_true a3
    refine zR λ_ b3=>?_;refine zm rfl ?_
    first|refine WL.ev (Ev.iX (b:=1) rfl rfl oO) rfl ?_|refine WL.ev (Ev.aaq (b:=1) rfl rfl) rfl ?_
    refine za rfl ?_;refine WL.nil (b3 _ _ _ (V ?_));refine Sr λ_ d8=>zm rfl (za rfl (zz (d8 ?_)));refine zr (zr1 rfl rfl ?_);exact ⟨f+1,rfl,pX j p n C (on:=true) (by first|exact i|exact i.trans o) rfl,by omega,c⟩
   have o:=decide_eq_false a3;refine zkk (V (Sr λ_ d7=>zm rfl (za rfl (zz (d7 ?_)))));refine zr (zr1 rfl rfl ?_);exact ⟨f,rfl,pX j p n C (on:=false) (by first|exact i|exact i.trans o) rfl,by omega,c⟩
  have i:upM mode x.neg f A ((nz f+nz (f+1))*B)=false:=by
   rw[<- hM,D,b2j,decide_eq_false (show ¬M<A by omega),decide_eq_false (show ¬M=A by omega)];rfl
  refine zv rfl (zv rfl (zv rfl (zw rfl (ze rfl rfl (ze rfl rfl (za rfl ?_))))));refine WL.nil (H _ _ _ (z ?_));refine zc λ_ d6=>Sr λ_ d5=>zm rfl (zz (d5 ?_));refine CW.oX rfl ?_;refine zkk (d6 (Sr λ_ d4=>zm rfl (za rfl (zz (d4 ?_)))));refine zr (zr1 rfl rfl ?_);exact ⟨f,rfl,pX j p n C (on:=false) (by first|exact i|exact i.trans o) rfl,by omega,c⟩
 refine Sr λ_ d3=>zq rfl rfl (za rfl (zz (d3 ?_)));refine zy rfl ?_ ?_<;>intro f8<;>try simp only[qs] at f8
 ·have D:mode=2:=f8
  have i:upM mode x.neg f A ((nz f+nz (f+1))*B) = !x.neg:=by rw[D,up_up]
  refine zR λ_ b2=>?_;refine zf rfl (zf rfl (zl k rfl rfl (zT rfl (za rfl ?_))));refine WL.nil (b2 _ _ _ (z ?_));refine zc λ_ U=>Sr λ_ d2=>zm rfl (zz (d2 ?_));refine zy rfl ?_ ?_<;>intro a2<;>try simp only[qs] at a2
  ·have o:(!x.neg)=true:=by simpa using a2
   refine zR λ_ b1=>?_;refine zm rfl ?_
   first|refine WL.ev (Ev.iX (b:=1) rfl rfl oO) rfl ?_|refine WL.ev (Ev.aaq (b:=1) rfl rfl) rfl ?_
   refine za rfl ?_;refine WL.nil (b1 _ _ _ (U ?_));refine Sr λ_ d1=>zm rfl (za rfl (zz (d1 ?_)));refine zr (zr1 rfl rfl ?_);exact ⟨f+1,rfl,pX j p n C (on:=true) (by first|exact i|exact i.trans o) rfl,by omega,c⟩
  have o:(!x.neg)=false:=by simpa using a2
  refine zkk (U (Sr λ_ d0=>zm rfl (za rfl (zz (d0 ?_)))));refine zr (zr1 rfl rfl ?_);exact ⟨f,rfl,pX j p n C (on:=false) (by first|exact i|exact i.trans o) rfl,by omega,c⟩
 refine Sr λ_ c9=>zq rfl rfl (za rfl (zz (c9 ?_)));refine zy rfl ?_ ?_<;>intro Z<;>try simp only[qs] at Z
 ·have D:mode=3:=Z
  have i:upM mode x.neg f A ((nz f+nz (f+1))*B)=x.neg:=by rw[D,up_down]
  refine zR λ_ b0=>?_;refine zf rfl (zf rfl (zl k rfl rfl (za rfl ?_)));refine WL.nil (b0 _ _ _ (z ?_));refine zc λ_ T=>Sr λ_ c8=>zm rfl (zz (c8 ?_));refine zy rfl ?_ ?_<;>intro O<;>try simp only[qs] at O
  ·have o:x.neg=true:=by simpa using O
   refine zR λ_ a9=>?_;refine zm rfl ?_
   first|refine WL.ev (Ev.iX (b:=1) rfl rfl oO) rfl ?_|refine WL.ev (Ev.aaq (b:=1) rfl rfl) rfl ?_
   refine za rfl ?_;refine WL.nil (a9 _ _ _ (T ?_));refine Sr λ_ c7=>zm rfl (za rfl (zz (c7 ?_)));refine zr (zr1 rfl rfl ?_);exact ⟨f+1,rfl,pX j p n C (on:=true) (by first|exact i|exact i.trans o) rfl,by omega,c⟩
  have o:x.neg=false:=by simpa using O
  refine zkk (T (Sr λ_ c6=>zm rfl (za rfl (zz (c6 ?_)))));refine zr (zr1 rfl rfl ?_);exact ⟨f,rfl,pX j p n C (on:=false) (by first|exact i|exact i.trans o) rfl,by omega,c⟩
 refine Sr λ_ c5=>zq rfl rfl (za rfl (zz (c5 ?_)));refine zy rfl ?_ ?_<;>intro Y<;>try simp only[qs] at Y
 ·have D:mode=4:=Y
  have i:upM mode x.neg f A ((nz f+nz (f+1))*B)=decide (h<=0):=by rw[<- hM,D,up_away];exact decide_eq_decide.2 f4.symm
  refine zR λ_ a8=>?_;refine zm rfl (zQ rfl rfl (za rfl ?_));refine WL.nil (a8 _ _ _ (z ?_));refine zc λ_ R=>Sr λ_ c4=>zm rfl (zz (c4 ?_));refine zy rfl ?_ ?_<;>intro J<;>try simp only[qs] at J
  ·have o:decide (h<=0)=true:=decide_eq_true (by have:=J;omega);refine zR λ_ a7=>?_
   refine zm rfl ?_
   first|refine WL.ev (Ev.iX (b:=1) rfl rfl oO) rfl ?_|refine WL.ev (Ev.aaq (b:=1) rfl rfl) rfl ?_
   refine za rfl ?_;refine WL.nil (a7 _ _ _ (R ?_));refine Sr λ_ c3=>zm rfl (za rfl (zz (c3 ?_)));refine zr (zr1 rfl rfl ?_);exact ⟨f+1,rfl,pX j p n C (on:=true) (by first|exact i|exact i.trans o) rfl,by omega,c⟩
  have o:decide (h<=0)=false:=decide_eq_false (by have:=J;omega);refine zkk (R (Sr λ_ c2=>zm rfl (za rfl (zz (c2 ?_)))));refine zr (zr1 rfl rfl ?_);exact ⟨f,rfl,pX j p n C (on:=false) (by first|exact i|exact i.trans o) rfl,by omega,c⟩
 have D:mode=1:=by omega
 have i:upM mode x.neg f A ((nz f+nz (f+1))*B)=false:=by rw[D,up_zero]
 refine zkk (z (zc λ_ c1=>Sr λ_ c0=>zm rfl (zz (c0 ?_))));refine CW.oX rfl ?_;refine zkk (c1 (Sr λ_ b9=>zm rfl (za rfl (zz (b9 ?_)))));refine zr (zr1 rfl rfl ?_);exact ⟨f,rfl,pX j p n C (on:=false) (by first|exact i|exact i.trans o) rfl,by omega,c⟩
def RdP(u:Value)(nn nd:Bool)(ln ld:Nat)(en ed mode:Int):Prop:=
  (¬(0<=mode/\mode<=4)/\u = .tuple [.int .u64 0,.bool false,.int .i64 1].toArray)\/((0<=mode/\mode<=4)/\
    ((sgD nd ld<0/\u = .tuple [.int .u64 0,.bool false,.int .i64 1].toArray)\/(0<=sgD nd ld/\(cQ nn ln en=none\/cQ nd ld ed=none)/\u = .tuple [.int .u64 0,.bool false,.int .i64 2].toArray)\/
     (0<=sgD nd ld/\∃ x y,cQ nn ln en=some x/\cQ nd ld ed=some y/\((y.m=0/\u = .tuple [.int .u64 0,.bool false,.int .i64 21].toArray)\/
       (y.m≠0/\∃ r:Nat,lZ (dyA x.m (x.e-y.e)) (y.m*dyB (x.e-y.e)) x.neg mode r/\r<=9218868437227405312/\u = .tuple [.int .u64 (r:Int),.bool x.neg,.int .i64 0].toArray)))))
theorem c1j(nn nd:Bool)(vn vd:Value)(ln ld:List Nat)(F G:Int)(mode:Int)(w:World)(p:NU w vn ln)(q:NU w vd ld)(c7 : -9223372036854775808<=F/\F<=9223372036854775807)(c8 : -9223372036854775808<=G/\G<=9223372036854775807)(c3:ln.length<=34359738368)(c4:ld.length<=34359738368):Ret Tryz.prog 185 [.agg [.int .i64 53,.int .i64 (-1074),.int .u64 9218868437227405312].toArray,.agg [.bool nn,vn,.int .i64 F,.bool nd,vd,.int .i64 G].toArray,.bool false,.int .i64 mode] w λu w'=>RdP u nn nd (val ln) (val ld) F G mode/\Chg [] w w':=by
 have a:=crf w;have d7:=p.one;have d8:=q.one;refine zE4 Tryz.func185 rfl ?_;refine Sr λ_ c1=>?_;refine zBh rfl rfl rfl a λb4 e2 b s d9 a4 a=>?_;have p:=p.q5 s;have q:=q.q5 s;refine zBh rfl rfl rfl a λb5 e1 c9 j a5 a3 a=>?_;have p:=p.q5 j;have q:=q.q5 j;have b3:=zdd b.lt a5;have b:=b.k0 j;refine za rfl (za rfl (za rfl (zz (c1 (zc λ_ c0=>?_)))));refine CW.oJ 18 (decide (mode<0\/4<mode)) ?_ ?_
 ·refine zS λ_ I=>zm rfl (zL rfl rfl (zm rfl ?_));refine zb ?_ ?_<;>intro c6<;>try simp only[qs] at c6
  ·refine zv rfl (zv rfl (zt rfl rfl (zz (I ?_))));refine ⟨rfl,rfl,q9.g7 rfl ?_ ?_⟩
   ·first|(simp;omega)|(simp_all;done)|(refine decide_eq_decide.2 ?_;omega)
   exact SMg
  refine zw rfl (zm rfl (zw rfl (zG rfl rfl (ze rfl rfl (zz (I ?_))))));refine ⟨rfl,rfl,q9.g7 rfl ?_ ?_⟩
  ·first|(simp;omega)|(simp_all;done)|(refine decide_eq_decide.2 ?_;omega)
  exact SMg
 refine zy rfl ?_ ?_<;>intro z<;>try simp only[qs] at z
 ·have D:=z
  refine Sr λ_ b9=>za rfl (za rfl (za rfl (zz (b9 ?_))));refine zr ?_;refine k8.ret3 rfl rfl rfl rfl ?_;exact ⟨.inl ⟨by omega,rfl⟩,a⟩
 have D:0<=mode/\mode<=4:=by have:=z;omega
 refine zkk (c0 (Sr λ_ k=>zg c9 rfl ?_));refine WL.buildSlice (m:=1) (cs:=[.bool nn,vn,.int .i64 F,.bool nd,vd,.int .i64 G]) oD oD rfl oR rfl λa8 b6 g=>?_;have c:=g.chg;have a6:BK b6 a8 _ [.bool nn,vn,.int .i64 F,.bool nd,vd,.int .i64 G]:=g.at_;have c5:=g.ge;have a:=a.trans c;have p:=p.q5 c;have q:=q.q5 c;have b:=b.k0 c;refine WL.call hasF236 rfl rfl (r11may_spec a8 _ _ _ _ _ _ _ _ _ a6 p q c7 c8 c3 c4) λv w1 h'=>?_;obtain ⟨hD,t⟩:=h';have a:=a.ta t;have b:=b.k0 t;rcases hD with ⟨y,rfl⟩|⟨y,c2,rfl⟩|⟨y,H,dy,o,n,x,rfl⟩|⟨y,H,dy,o,n,x,gg,cc,rx,ry,rfl,l,C,B⟩
 ·refine zm rfl (zx rfl rfl (zx rfl rfl (za rfl (za rfl (zz (k (zc λ_ e3=>Sr λ_ a0=>zm rfl (zN rfl rfl (zz (a0 ?_))))))))));refine CW.nZ rfl ?_;refine Sr λ_ Z=>zm rfl (za rfl (za rfl (za rfl (zz (Z ?_)))));refine zr ?_;refine k8.ret3 rfl rfl rfl rfl ?_;exact ⟨.inr ⟨D,.inl ⟨y,rfl⟩⟩,a⟩
 ·refine zm rfl (zx rfl rfl (zx rfl rfl (za rfl (za rfl (zz (k (zc λ_ d5=>Sr λ_ Y=>zm rfl (zN rfl rfl (zz (Y ?_))))))))));refine CW.nZ rfl ?_;refine Sr λ_ X=>zm rfl (za rfl (za rfl (za rfl (zz (X ?_)))));refine zr ?_;refine k8.ret3 rfl rfl rfl rfl ?_;exact ⟨.inr ⟨D,.inr (.inl ⟨y,c2,rfl⟩)⟩,a⟩
 ·refine zm rfl (zx rfl rfl (zx rfl rfl (za rfl (za rfl (zz (k (zc λ_ d4=>Sr λ_ V=>zm rfl (zN rfl rfl (zz (V ?_))))))))));refine CW.nZ rfl ?_;refine Sr λ_ U=>zm rfl (za rfl (za rfl (za rfl (zz (U ?_)))));refine zr ?_;refine k8.ret3 rfl rfl rfl rfl ?_;exact ⟨.inr ⟨D,.inr (.inr ⟨y,H,dy,o,n,.inl ⟨x,rfl⟩⟩)⟩,a⟩
 have a2:=iJ o;have a1:=iJ n;have e4:=l.lt (by simp[clx]);refine zm rfl (zx rfl rfl (zx rfl rfl (za rfl (za rfl (zz (k (zc λ_ T=>Sr λ_ R=>zm rfl (zN rfl rfl (zz (R ?_))))))))));refine CW.oX rfl ?_;refine zkk (T (zc λ_ Q=>Sr λ_ O=>zm rfl (zm rfl (zv rfl (zv rfl (zv rfl (zv rfl (zv rfl (ze rfl rfl (zz (O ?_)))))))))));refine CW.oX rfl ?_;refine zkk (Q (zc λ_ M=>?_));refine CW.bZ 15 rfl cJ λd6 J d h=>?_;have a:=a.ta h;have b:=b.k0 h;have l:=l.q5 h;have C:=C.q5 h;have B:=B.q5 h;have A:=b;have f:=l;refine wh 0 rfl d (λ_ e=>Ev.oQ rfl rfl (A.q5 e) rfl) (wh 1 rfl d (eM rfl) (wh 2 rfl d (λ_ _=>Ev.indexAddr (i:=0) rfl rfl oD oD) (wh 3 rfl d (λ_ e=>Ev.avq (cs:=clx H dy rx ry) rfl rfl rfl (f.q5 e)) ?_)));unfold clx;refine wh 4 rfl d (eM rfl) (wh 5 rfl d (eM rfl) (wh 7 rfl d (eM rfl) (wh 8 rfl d (λ_ _=>Ev.indexAddr (i:=0) rfl rfl oD oD) (wh 9 rfl d (eF rfl) (wh 10 rfl d (eF rfl) (wh 11 rfl d (λ_ e=>Ev.load (v:=.bool H.neg) rfl rfl ((f.q5 e) 0 _ rfl)) ?_))))));refine WH.k6 6 rfl oR hasF237 rfl rfl (djq H dy rx ry mode _ D C B a2 a1) λv w2 h'=>?_;obtain ⟨r,rfl,d0,hr,hC⟩:=h';have a:=a.ta hC;have d:=d.trans hC;refine ⟨d,?_⟩;refine wh 12 rfl d (eA rfl) (wh 13 rfl d (eA rfl) (wh 14 rfl d (eA rfl) ?_));refine WH.done oR (J _ _ _ ?_);refine M ?_;refine zr ?_;refine k8.ret3 rfl rfl rfl rfl ?_;exact ⟨.inr ⟨D,.inr (.inr ⟨y,H,dy,o,n,.inr ⟨x,r,d0,hr,rfl⟩⟩)⟩,a⟩
theorem aij(k:Nat)(neg:Bool)(e:Int)(w:World)(l:k<=9218868437227405312):Ret Tryz.prog 186 [.int .u64 (k:Int),.bool neg,.int .i64 e] w λu w'=>u = .tuple [.float .f64 (if neg then k+9223372036854775808 else k),.int .i64 e].toArray/\w=w':=by
 refine zE3 Tryz.func186 rfl ?_;refine Sr λ_ j=>za rfl (za rfl (zz (j (zc λ_ d=>Sr λ_ i=>zm rfl (zz (i ?_))))));refine zy rfl ?_ ?_<;>intro c<;>try simp only[qs] at c
 ·have a:=c
  refine zR λ_ f=>?_;refine zm rfl ?_;refine WL.ev (Ev.iX (b:=9223372036854775808) rfl rfl oO) rfl ?_;refine za rfl ?_;refine WL.nil (f _ _ _ (d ?_));refine Sr λ_ h=>zm rfl ?_;refine WL.ev (Ev.ext rfl (ext82 _ _)) rfl ?_;refine zm rfl (za rfl (za rfl (zz (h ?_))));refine zr (zr2 rfl rfl rfl ?_);rw[if_pos a];exact ⟨rfl,rfl⟩
 have a:=c;refine zkk (d (Sr λ_ g=>zm rfl ?_));refine WL.ev (Ev.ext rfl (ext82 _ _)) rfl ?_;refine zm rfl (za rfl (za rfl (zz (g ?_))));refine zr (zr2 rfl rfl rfl ?_);rw[if_neg (by rw[a];decide)];exact ⟨rfl,rfl⟩
theorem clj(Z nd:Bool)(X Y:Value)(C D:List Nat)(A B:Int)(mode:Int)(w:World)(h:NU w X C)(i:NU w Y D)(R : -9223372036854775808<=A/\A<=9223372036854775807)(T : -9223372036854775808<=B/\B<=9223372036854775807)(O:C.length<=34359738368)(Q:D.length<=34359738368):Ret Tryz.prog 108 [.agg [.bool Z,X,.int .i64 A,.bool nd,Y,.int .i64 B].toArray,.int .i64 mode] w λu w'=>(∃ bits e,u = .tuple [.float .f64 bits,.int .i64 e].toArray/\buq Z nd (val C) (val D) A B mode bits e)/\Chg [] w w':=by
 have b:=crf w;have a1:=h.one;have a2:=i.one;refine zE2 Tryz.func108 rfl ?_;refine Sr λ_ I=>?_;refine zBh rfl rfl rfl b λb2 a5 n j a3 t b=>?_;have h:=h.q5 j;have i:=i.q5 j;refine za rfl (za rfl (zz (I (zc λ_ f=>?_))));refine CW.bZ 11 rfl cJ λa6 d a g=>?_;have b:=b.ta g;have n:=n.k0 g;have h:=h.q5 g;have i:=i.q5 g;have m:=n;refine wh 1 rfl a (λ_ J=>Ev.oQ rfl rfl (m.q5 J) rfl) (wh 2 rfl a (eM rfl) ?_);refine WH.k6 0 rfl oR hasF162 rfl rfl (byq _) λv w1 c=>?_;obtain ⟨rfl,z⟩:=c;have b:=b.ta z;have h:=h.q5 z;have i:=i.q5 z;have a:=a.trans z;refine ⟨a,?_⟩;refine WH.k6 3 rfl oR hasF185 rfl rfl (c1j _ _ _ _ _ _ _ _ mode _ h i R T O Q) λv w2 c=>?_;obtain ⟨hD,k⟩:=c;have b:=b.ta k;have a:=a.trans k;refine ⟨a,?_⟩;rcases hD with ⟨p,rfl⟩|⟨p,⟨o,rfl⟩|⟨o,M,rfl⟩|⟨o,V,dy,y,x,⟨l,rfl⟩|⟨l,r,U,hr,rfl⟩⟩⟩
 ·refine wh 4 rfl a (eM rfl) (wh 5 rfl a (eX rfl rfl) (wh 6 rfl a (eX rfl rfl) (wh 7 rfl a (eX rfl rfl) (wh 8 rfl a (eA rfl) (wh 9 rfl a (eA rfl) (wh 10 rfl a (eA rfl) ?_))))));refine WH.done oR (d _ _ _ ?_);refine f (Sr λ_ H=>zm rfl (zm rfl (zm rfl ?_)));refine WL.call hasF186 rfl rfl (aij 0 false 1 _ oO) λv w3 c=>?_;obtain ⟨rfl,rfl⟩:=c;refine zx rfl rfl (zx rfl rfl (za rfl (za rfl (zz (H ?_)))));refine zr (zr2 rfl rfl rfl ?_);exact ⟨⟨_,_,rfl,.inl ⟨p,rfl,rfl⟩⟩,b⟩
 ·refine wh 4 rfl a (eM rfl) (wh 5 rfl a (eX rfl rfl) (wh 6 rfl a (eX rfl rfl) (wh 7 rfl a (eX rfl rfl) (wh 8 rfl a (eA rfl) (wh 9 rfl a (eA rfl) (wh 10 rfl a (eA rfl) ?_))))));refine WH.done oR (d _ _ _ ?_);refine f (Sr λ_ G=>zm rfl (zm rfl (zm rfl ?_)));refine WL.call hasF186 rfl rfl (aij 0 false 1 _ oO) λv w4 c=>?_;obtain ⟨rfl,rfl⟩:=c;refine zx rfl rfl (zx rfl rfl (za rfl (za rfl (zz (G ?_)))));refine zr (zr2 rfl rfl rfl ?_);exact ⟨⟨_,_,rfl,.inr ⟨p,.inl ⟨o,rfl,rfl⟩⟩⟩,b⟩
 ·refine wh 4 rfl a (eM rfl) (wh 5 rfl a (eX rfl rfl) (wh 6 rfl a (eX rfl rfl) (wh 7 rfl a (eX rfl rfl) (wh 8 rfl a (eA rfl) (wh 9 rfl a (eA rfl) (wh 10 rfl a (eA rfl) ?_))))));refine WH.done oR (d _ _ _ ?_);refine f (Sr λ_ F=>zm rfl (zm rfl (zm rfl ?_)));refine WL.call hasF186 rfl rfl (aij 0 false 2 _ oO) λv w5 c=>?_;obtain ⟨rfl,rfl⟩:=c;refine zx rfl rfl (zx rfl rfl (za rfl (za rfl (zz (F ?_)))));refine zr (zr2 rfl rfl rfl ?_);exact ⟨⟨_,_,rfl,.inr ⟨p,.inr (.inl ⟨o,M,rfl,rfl⟩)⟩⟩,b⟩
 ·refine wh 4 rfl a (eM rfl) (wh 5 rfl a (eX rfl rfl) (wh 6 rfl a (eX rfl rfl) (wh 7 rfl a (eX rfl rfl) (wh 8 rfl a (eA rfl) (wh 9 rfl a (eA rfl) (wh 10 rfl a (eA rfl) ?_))))));refine WH.done oR (d _ _ _ ?_);refine f (Sr λ_ s=>zm rfl (zm rfl (zm rfl ?_)));refine WL.call hasF186 rfl rfl (aij 0 false 21 _ oO) λv w6 c=>?_;obtain ⟨rfl,rfl⟩:=c;refine zx rfl rfl (zx rfl rfl (za rfl (za rfl (zz (s ?_)))));refine zr (zr2 rfl rfl rfl ?_);exact ⟨⟨_,_,rfl,.inr ⟨p,.inr (.inr ⟨o,V,dy,y,x,.inl ⟨l,rfl,rfl⟩⟩)⟩⟩,b⟩
 refine wh 4 rfl a (eM rfl) (wh 5 rfl a (eX rfl rfl) (wh 6 rfl a (eX rfl rfl) (wh 7 rfl a (eX rfl rfl) (wh 8 rfl a (eA rfl) (wh 9 rfl a (eA rfl) (wh 10 rfl a (eA rfl) ?_))))));refine WH.done oR (d _ _ _ ?_);refine f (Sr λ_ q=>zm rfl (zm rfl (zm rfl ?_)));refine WL.call hasF186 rfl rfl (aij r V.neg 0 _ oO) λv w7 c=>?_;obtain ⟨rfl,rfl⟩:=c;refine zx rfl rfl (zx rfl rfl (za rfl (za rfl (zz (q ?_)))));refine zr (zr2 rfl rfl rfl ?_);exact ⟨⟨_,_,rfl,.inr ⟨p,.inr (.inr ⟨o,V,dy,y,x,.inr ⟨l,r,U,hr,rfl,rfl⟩⟩)⟩⟩,b⟩
theorem bzx{p q:Bool}{t u:Nat}{A B mode:Int}{b b':Nat}{e e':Int}(h:buq p q t u A B mode b e)(k:buq p q t u A B mode b' e'):b=b'/\e=e':=by
  rcases h with ⟨a,g,d⟩|⟨a,h⟩<;>rcases k with ⟨m,f,c⟩|⟨m,k⟩
  · exact ⟨g.trans f.symm,d.trans c.symm⟩
  · exact absurd m a
  · exact absurd a m
  · rcases h with ⟨s,g,d⟩|⟨s,n,g,d⟩|⟨s,x,y,w,v,h⟩<;>rcases k with ⟨o,f,c⟩|⟨o,C,f,c⟩|⟨o,G,F,j,i,k⟩
    · exact ⟨g.trans f.symm,d.trans c.symm⟩
    · omega
    · omega
    · omega
    · exact ⟨g.trans f.symm,d.trans c.symm⟩
    · rcases n with n|n
      · rw[j] at n;cases n
      · rw[i] at n;cases n
    · omega
    · rcases C with n|n
      · rw[w] at n;cases n
      · rw[v] at n;cases n
    · rw[w] at j;cases j
      rw[v] at i;cases i
      rcases h with ⟨z,g,d⟩|⟨z,r,N,_,g,d⟩<;>rcases k with ⟨l,f,c⟩|⟨l,H,D,_,f,c⟩
      · exact ⟨g.trans f.symm,d.trans c.symm⟩
      · exact absurd z l
      · exact absurd l z
      · have:=N.unique (Nat.mul_pos oO (yZ _)) D
        subst this
        exact ⟨g.trans f.symm,d.trans c.symm⟩
end
section
open Go Fl
def Srt(l:List Nat):Prop:=l.Pairwise λa b=>key a<=key b
def Nums(l:List Nat):Prop:=∀ x∈l,x<18446744073709551616/\isNaN x=false
def sortP(l:List Nat):List Nat:=l.mergeSort λa b=>decide (key a<=key b)
end
section
open Go Sx Wd Fl
set_option exponentiation.threshold 9000
end
section
open Go Sx Wd Fl
set_option exponentiation.threshold 9000
theorem fvI_nought{w:Nat}(b:(j0 w).cls<=2)(a:w<18446744073709551616):fvI w=0↔w%9223372036854775808=0:=by
  have d:(0:Nat)<2^1074:=Nat.two_pow_pos _
  have e:=fvI_nz b a
  have c:nz (w%9223372036854775808)*2^1074=0↔w%9223372036854775808=0:=by
    rw[<- nz_zero (k:=w%9223372036854775808)]
    constructor
    · intro q
      rcases Nat.mul_eq_zero.1 q with q|q
      · exact q
      · omega
    · intro q;rw[q,Nat.zero_mul]
  rw[<- c,e]
  split<;>omega
end
section
open Go Sx Wd
set_option exponentiation.threshold 5000
theorem b3q{S:Int}(h:InB S)(d:S≠0): ∃ a:Nat,S.natAbs=(dJ S).m*2^a/\(dJ S).e = -2148+(a:Int)/\(dJ S).neg=decide (S<0):=by
  obtain ⟨-,c⟩:=akx (n:=S.natAbs) oO
  have b:=bwj h d
  exact ⟨tz S.natAbs,by rw[b];exact c,by rw[b],by rw[b]⟩
theorem thv_in{x y:Nat}(b:(j0 x).cls<=2)(a:(j0 y).cls<=2):InB (thv (dkx x y)):=by
  have h:=cyx b a
  have c:2^4196<16384*BB:=by rw[b2q];exact Nat.pow_lt_pow_right oD oD
  unfold InB
  generalize 16384*BB=M at *
  generalize 2^4196=N at *
  omega
theorem mulD_sum{x y:Nat}(D:(j0 x).cls<=2)(C:(j0 y).cls<=2):fJ (dJ (fvI x)) (dJ (fvI y))=some (dJ (thv (dkx x y))):=by
  have e:=c8q D C
  have J:=thv_in D C
  have A:=dpj x
  have v:=dpj y
  generalize thv (dkx x y)=Z at *
  generalize fvI x=S at *
  generalize fvI y=T at *
  have h:=a1x A
  have g:=a1x v
  rw[<- cuj h g]
  have F:(2:Nat)^2148≠0:=Nat.ne_of_gt (Nat.two_pow_pos _)
  by_cases h0:S=0
  · subst h0
    have:Z=0:=by
      rw[Int.zero_mul] at e
      rcases Int.mul_eq_zero.1 e with q|q
      · exact q
      · exact absurd (by exact_mod_cast q) F
    subst this
    rw[show (dJ 0).m=0 from rfl,Nat.zero_mul,jJ];rfl
  by_cases h1:T=0
  · subst h1
    have:Z=0:=by
      rw[Int.mul_zero] at e
      rcases Int.mul_eq_zero.1 e with q|q
      · exact q
      · exact absurd (by exact_mod_cast q) F
    subst this
    rw[show (dJ 0).m=0 from rfl,Nat.mul_zero,jJ];rfl
  obtain ⟨a,R,V,Q⟩:=b3q A h0
  obtain ⟨b,O,U,M⟩:=b3q v h1
  have w:(dJ S).m≠0:=λq=>h0 ((bkq A).1 q)
  have u:(dJ T).m≠0:=λq=>h1 ((bkq v).1 q)
  have o:((dJ S).m*(dJ T).m)%2=1:=by rw[Nat.mul_mod,h.odd w,g.odd u]
  have I:Z≠0:=λq=>by
    rw[q,Int.zero_mul] at e
    rcases Int.mul_eq_zero.1 e.symm with q|q
    · exact h0 q
    · exact h1 q
  have d:Z.natAbs*2^2148=(dJ S).m*(dJ T).m*2^(a+b):=by
    have:=congrArg Int.natAbs e
    rw[Int.natAbs_mul,Int.natAbs_mul,Int.natAbs_natCast] at this
    rw[this,R,O,Nat.pow_add]
    simp only[Nat.mul_comm,Nat.mul_left_comm,Nat.mul_assoc]
  have j:=tz_scale (m:=Z.natAbs) oO 2148
  rw[d,tz_mul _ _ o] at j
  obtain ⟨k,H⟩ : ∃ k,k=tz Z.natAbs:=⟨_,rfl⟩
  rw[<- H] at j
  have l:Z.natAbs=(dJ S).m*(dJ T).m*2^k:=by
    rw[j,Nat.pow_add,<- Nat.mul_assoc] at d
    exact Nat.eq_of_mul_eq_mul_right (Nat.two_pow_pos _) d
  rw[<- abj (k:=k) (f:=-2148) oO,<- l,Q,M]
  refine akq J λ_=>?_
  have r:(Z<0)↔¬(S<0↔T<0):=by
    have n:(0:Int)<((2^2148:Nat):Int):=by exact_mod_cast Nat.two_pow_pos _
    constructor
    · intro B i
      have p:Z*((2^2148:Nat):Int)<0:=Int.mul_neg_of_neg_of_pos B n
      rw[e] at p
      by_cases hsn:S<0
      · have:=Int.mul_pos_of_neg_of_neg hsn (i.1 hsn);omega
      · have:=Int.mul_nonneg (show 0<=S by omega) (show 0<=T by have:=λq=>hsn (i.2 q);omega);omega
    · intro G
      apply Classical.byContradiction
      intro B
      have t:0<=Z*((2^2148:Nat):Int):=Int.mul_nonneg oO oO
      rw[e] at t
      by_cases hsn:S<0
      · have s:0<T:=by
          have : ¬T<0:=λq=>G ⟨λ_=>q,λ_=>hsn⟩
          omega
        have:=Int.mul_neg_of_neg_of_pos hsn s;omega
      · have c:T<0:=Classical.byContradiction λq=>G ⟨λz=>absurd z hsn,λz=>absurd z q⟩
        have:=Int.mul_neg_of_pos_of_neg (show 0<S by omega) c;omega
  by_cases hsn:S<0<;>by_cases c:T<0
  · rw[decide_eq_true hsn,decide_eq_true c,decide_eq_false (λq=>r.1 q ⟨λ_=>c,λ_=>hsn⟩)];rfl
  · rw[decide_eq_true hsn,decide_eq_false c,decide_eq_true (r.2 λq=>c (q.1 hsn))];rfl
  · rw[decide_eq_false hsn,decide_eq_true c,decide_eq_true (r.2 λq=>hsn (q.2 c))];rfl
  · rw[decide_eq_false hsn,decide_eq_false c,decide_eq_false (λq=>r.1 q ⟨λz=>absurd z hsn,λz=>absurd z c⟩)];rfl
end
section
open Go Sx Wd
set_option exponentiation.threshold 9000
theorem mulD_int{S:Int}{n:Nat}(h:InB S)(l:n≠0)(d:n<18446744073709551616)(o:InB (S*(n:Int))):fJ (dJ S) (cZ (n:Int))=some (dJ (S*(n:Int))):=by
  have c:=a1x h
  have b:=wZ (n:=(n:Int)) oO
  rw[<- cuj c b]
  obtain ⟨t,i,e,g⟩:=cvx l d
  by_cases h0:S=0
  · subst h0
    rw[show (dJ 0).m=0 from rfl,Nat.zero_mul,jJ,Int.zero_mul];rfl
  · obtain ⟨a,r,u,p⟩:=b3q h h0
    have s:S*(n:Int)≠0:=by
      intro q
      rcases Int.mul_eq_zero.1 q with q|q
      · exact h0 q
      · omega
    have j:(S*(n:Int)).natAbs=(dJ S).m*(cZ (n:Int)).m*2^(a+t):=by
      rw[Int.natAbs_mul,Int.natAbs_natCast,r,Nat.pow_add]
      calc (dJ S).m*2^a*n=(dJ S).m*2^a*((cZ (n:Int)).m*2^t):=by rw[<- i]
        _=_:=by simp only[Nat.mul_comm,Nat.mul_left_comm,Nat.mul_assoc]
    rw[<- abj (k:=a+t) (f:=-2148) oO,<- j,p,g]
    refine akq o λ_=>?_
    have:(S*(n:Int)<0)↔S<0:=by
      constructor
      · intro q
        apply Int.lt_of_not_ge;intro e
        have:=Int.mul_nonneg e (show (0:Int)<=n by omega)
        omega
      · intro q;exact Int.mul_neg_of_neg_of_pos q oO
    rw[Bool.bne_false]
    exact decide_eq_decide.2 this.symm
theorem splitP_exp{x:Nat}(h:(j0 x).cls=1\/(j0 x).cls=2): -1074<=(j0 x).exp:=by
  unfold j0 at h ⊢
  by_cases a:x/4503599627370496%2048=2047/\x%4503599627370496≠0
  · rw[if_pos a] at h;simp at h
  · rw[if_neg a] at h ⊢
    by_cases b:x/4503599627370496%2048=2047
    · rw[if_pos b] at h;simp at h
    · rw[if_neg b] at h ⊢
      by_cases d:0<x/4503599627370496%2048
      · rw[if_pos d] at h ⊢;dsimp only;omega
      · rw[if_neg d] at h ⊢
        by_cases f:0<x%4503599627370496
        · rw[if_pos f];simp
        · rw[if_neg f];simp
theorem fin_form{x:Nat}(h:(j0 x).cls=1\/(j0 x).cls=2):cQ (j0 x).neg (j0 x).frac (j0 x).exp=some (dJ (fvI x)):=by
  have c:=splitP_exp h
  rw[<- abj (k:=((j0 x).exp+2148).toNat) (f:=-2148) oO]
  have b:fvN x=(j0 x).frac*2^((j0 x).exp+2148).toNat:=by unfold fvN;rw[if_pos h]
  rw[<- b,<- dej]
  refine akq (dpj x) λa=>?_
  unfold fvI at a ⊢
  cases hg:(j0 x).neg
  · rw[if_neg oD];exact (decide_eq_false oO).symm
  · rw[hg,if_pos rfl] at a
    rw[if_pos rfl];exact (decide_eq_true oO).symm
theorem bl_sgn{x y:Nat}: (bl x<bl y->sgn x y = -1)/\(bl y<bl x->sgn x y=1):=by
  constructor
  · intro h
    have c:=cbq x
    have b:=caj.1 (show bl y-1<bl y by omega)
    have a:=Nat.pow_le_pow_right (n:=2) oD (show bl x<=bl y-1 by omega)
    unfold sgn;rw[if_pos oO]
  · intro h
    have c:=cbq y
    have b:=caj.1 (show bl x-1<bl x by omega)
    have a:=Nat.pow_le_pow_right (n:=2) oD (show bl y<=bl x-1 by omega)
    unfold sgn;rw[if_neg oO,if_pos oO]
theorem sgn_swap(a b:Nat): -sgn a b=sgn b a:=by
  unfold sgn
  split<;>split<;>(try split)<;>omega
def btx(m:Nat)(e:Int)(n:Nat)(f:Int):Int:=sgn (m*2^(e-min e f).toNat) (n*2^(f-min e f).toNat)
theorem cmpV_swap(m:Nat)(e:Int)(n:Nat)(f:Int): -btx m e n f=btx n f m e:=by
  unfold btx
  rw[sgn_swap,Int.min_comm]
def bpx(na:Bool)(m:Nat)(e:Int)(nb:Bool)(n:Nat)(f:Int):Int:=
  if sgD na m<sgD nb n then -1 else if sgD nb n<sgD na m then 1 else if sgD na m=0 then 0 else sgD na m*btx m e n f
theorem cmpV_sum{S T:Int}(l:InB S)(hT:InB T)(o:S≠0)(n:T≠0):btx (dJ S).m (dJ S).e (dJ T).m (dJ T).e=sgn S.natAbs T.natAbs:=by
  obtain ⟨a,s,v,_⟩:=b3q l o
  obtain ⟨b,r,u,_⟩:=b3q hT n
  unfold btx
  obtain ⟨c,t⟩ : ∃ c,c=min a b:=⟨_,rfl⟩
  have k:min (dJ S).e (dJ T).e = -2148+(c:Int):=by omega
  rw[k,show ((dJ S).e-(-2148+(c:Int))).toNat=a-c by omega,show ((dJ T).e-(-2148+(c:Int))).toNat=b-c by omega]
  have j:S.natAbs=(dJ S).m*2^(a-c)*2^c:=by rw[Nat.mul_assoc,<- Nat.pow_add,show a-c+c=a by omega];exact s
  have i:T.natAbs=(dJ T).m*2^(b-c)*2^c:=by rw[Nat.mul_assoc,<- Nat.pow_add,show b-c+c=b by omega];exact r
  rw[j,i]
  generalize (dJ S).m*2^(a-c)=p
  generalize (dJ T).m*2^(b-c)=q
  have d:=Nat.two_pow_pos c
  unfold sgn
  have g:p*2^c<q*2^c↔p<q:=⟨λh=>Nat.lt_of_mul_lt_mul_right h,λh=>Nat.mul_lt_mul_of_pos_right h d⟩
  have f:q*2^c<p*2^c↔q<p:=⟨λh=>Nat.lt_of_mul_lt_mul_right h,λh=>Nat.mul_lt_mul_of_pos_right h d⟩
  simp only[g,f]
theorem cmpD_sum{S T:Int}(a:InB S)(hT:InB T):bpx (dJ S).neg (dJ S).m (dJ S).e (dJ T).neg (dJ T).m (dJ T).e=if S<T then -1 else if T<S then 1 else 0:=by
  have s1:=sumD_sg a.1 a.2
  have s2:=sumD_sg hT.1 hT.2
  unfold bpx
  rw[s1,s2]
  by_cases h0:S=0
  · subst h0
    by_cases h1:T=0
    · subst h1;rfl
    · by_cases h2:T<0
      · simp[h2];omega
      · simp[h1,h2];omega
  · by_cases h1:T=0
    · subst h1
      by_cases h2:S<0
      · simp[h2]
      · simp[h0,h2];omega
    · have b:=cmpV_sum a hT h0 h1
      rw[b]
      unfold sgn
      by_cases h2:S<0<;>by_cases h3:T<0
      · simp only[h2,h3,if_true]
        simp only[show ¬((-1:Int) < -1) by omega,show ¬((-1:Int)=0) by omega,if_false]
        by_cases q1:S<T
        · rw[if_pos q1,if_neg oO,if_pos oO];decide
        · rw[if_neg q1]
          by_cases q2:T<S
          · rw[if_pos q2,if_pos oO];decide
          · rw[if_neg q2,if_neg oO,if_neg oO];decide
      · simp only[h2,h3,h1,if_true,if_false]
        rw[if_pos oD,if_pos oO]
      · simp only[h2,h3,h0,if_true,if_false]
        rw[if_neg oD,if_pos oD,if_neg oO,if_pos oO]
      · simp only[h2,h3,h0,h1,if_false]
        simp only[show ¬((1:Int)<1) by omega,show ¬((1:Int)=0) by omega,if_false]
        by_cases q1:S<T
        · rw[if_pos q1,if_pos oO];decide
        · rw[if_neg q1]
          by_cases q2:T<S
          · rw[if_pos q2,if_neg oO,if_pos oO];decide
          · rw[if_neg q2,if_neg oO,if_neg oO];decide
end
section
open Go Sx Wd Fl
set_option exponentiation.threshold 9000
def askQ(num den rule mode:Int):Prop:=(0<=mode/\mode<=4)/\(0<=rule/\rule<=4)/\(1<=den/\den<=2147483648)/\0<=num/\num<=den
instance (num den rule mode:Int):Decidable (askQ num den rule mode):=by unfold askQ;exact inferInstance
def partQ(parts rule mode:Int):Prop:=(0<=mode/\mode<=4)/\(0<=rule/\rule<=4)/\1<=parts/\parts<=65536
instance (parts rule mode:Int):Decidable (partQ parts rule mode):=by unfold partQ;exact inferInstance
end
section
open Go Sx Wd Fl
set_option exponentiation.threshold 9000
structure Row(s:List Nat):Prop where
  srt:Srt s
  fin:finL s
  w : ∀ x∈s,x<18446744073709551616
  pos:0<s.length
end
section
open Go Sx Wd Fl
set_option exponentiation.threshold 9000
end
section
open Go Sx Wd Fl
set_option exponentiation.threshold 9000
end
section
open Go Sx Wd
set_option exponentiation.threshold 9000
end
section
open Go Sx Wd Fl
set_option exponentiation.threshold 9000
end
section
open Go Sx Wd Fl
section
variable {P:Program} {s:Sl} {w:World} {ty:TypeId} {x y:Operand} {t t':TypeId} {a b:Nat}
end
end
section
open Go Sx Wd
section
variable {P:Program} {n:Nat} {D:List Deferred} {s:Sl} {w:World} {ops:Array Oper} {K:KK} {rest:List Oper} {ty:TypeId} {pos:String} {af:Array Edge} {d:Nat} {x y:Operand}
theorem Sx.CW.seqMD{A:AQ}{x y:Code}(c:Nat)(b:Bool)(d:CW P x (cjq (λD' s' w'=>D'=D/\w'=w.drew/\q9 ((c,.bool b)::s) s') A) n D s w)(a:Chg [] w w.drew->CW P y A n D ((c,.bool b)::s) w.drew):CW P (.seq x y) A n D s w:=
  CW.anx _ d λD' s' w' ⟨h1,h2,h3⟩=>by subst h1;subst h2;exact (a (Chg.drew _ _)).sub h3
end
end
section
open Go Sx Wd Fl
def i64v(z:Int):Value:=.int .i64 z
theorem GR.rw_{w:World}{e:TypeId}{f:Nat->Value}{lo:Nat}{X:List Nat}{a:Option Addr}{m c:Nat}{l:List Nat}(h:GR w e f lo X (.slice a m c) l):RW w a (l.map f)/\m=l.length/\l.length<=c:=by
  obtain ⟨j,i,g,d,b⟩:=h.row
  cases g
  exact ⟨b,rfl,d⟩
namespace Sx
section
variable {P:Program} {A:AQ} {n:Nat} {D:List Deferred} {s:Sl} {w:World} {ops:Array Oper} {K:KK} {S:World->Prop} {fuel:Nat} {listed:Array Bool}
variable {op:Op} {ty:TypeId} {pos:String} {af:Array Edge} {d:Nat} {v:Value} {x y:Operand}
theorem drq{t e H:Nat}{Y:TypeDesc}{ze:Value}{I C:Nat}{z:Value}{v:Value}{f:Nat->Value}{lo:Nat}{X:List Nat}{l news:List Nat}{a:Option Addr}{mm c:Nat}[hT:aZ P t (.slice e) I C z][hE:aZ P e Y 1 H ze]
    (n:ze.cells.size=1) (V : ∀ i,(f i).oneCell'=true) (F:g8 s x=some v) (D:g8 s y=some (.slice a mm c)) (k:GR w e f lo X v l) (h:mm=news.length) (G:RW w a (news.map f)) (A:lo<=w.heap.size) (T : ∀ b∈X,b<w.heap.size)
    (d:(l.length+news.length)*H<=140737488355328) (U:l.length+news.length<=70368744177664) :
    ∃ v' w',Ev P s (.call ⟨.builtin .append,[x,y].toArray,#[t,t]⟩) ty w v' w'/\GR w' e f lo X v' (l++news)/\Chg v.ownBlock.toList w w':=by
  cases a with
  | some ad=>
    obtain ⟨v',w',Q,J,R,O⟩:=ev_append (P:=P) (s:=s) (w:=w) (ty:=ty) (x:=x) (y:=y) (t:=t) (hT:=hT) (hE:=hE) (news:=news.map f) n oO F D k.1 oT (λj u o=>by
      obtain ⟨Z,B,g⟩:=G j u o
      cases B;exact g) (λu o=>by
      obtain ⟨i,_,rfl⟩:=List.mem_map.1 o
      exact V i) (by unfold maxLen;omega) (by rw[h];exact d)
    refine ⟨v',w',Q,⟨by rw[List.length_append,List.map_append,<- h];exact J,λb m=>?_⟩,R⟩
    rcases O with q|q
    · rw[q] at m;exact k.2 b m
    · rw[q] at m;cases m;exact ⟨A,λh=>Nat.lt_irrefl _ (T _ h)⟩
  | none=>
    have M:news=[]:=by
      cases news with
      | nil=>rfl
      | cons u r=>obtain ⟨ad,B,_⟩:=G 0 (f u) rfl;cases B
    subst M
    have p:mm=0:=h
    subst p
    exact ⟨v,w,Ev.append00 F D k.1,by rw[List.append_nil];exact k,Chg.refl _ _⟩
end
end Sx
end
namespace Sx
open Go
structure ME where
  key:Int
  val:Value
  born:Nat
def meV(kk:IntKind)(e:ME):MapEntry:=⟨.int kk e.key,e.val,e.born⟩
def mapO(kk:IntKind)(es:List ME)(c:Nat):Obj:=.map (es.map (meV kk)).toArray c
section
variable {P:Program} {t key elem:TypeId} {kk:IntKind} {w:World} {sk bk:Nat} {zk:Value}
end
section
variable {P:Program} {n:Nat} {D:List Deferred} {s:Sl} {w:World} {ty:TypeId} {x y z:Operand} {ops:Array Oper} {K:KK} {rest:List Oper} {pos:String} {af:Array Edge} {d:Nat}
variable {t key elem:TypeId} {kk:IntKind} {sz by_ sk bk se be:Nat} {zt zk ze:Value} {de:TypeDesc} {r c:Nat} {es:List ME} {k:Int}
end
end Sx
section
open Go Sx Fl
theorem andNot_top(b:Nat)(h:9223372036854775808<=b)(f:b<18446744073709551616):aiq .andNot .u64 (b:Int) 9223372036854775808=(b:Int)-9223372036854775808:=by
  have e:(BitVec.ofInt 64 (b:Int)&&& ~~~BitVec.ofInt 64 9223372036854775808).toNat=b-9223372036854775808:=by
    rw[BitVec.toNat_and,BitVec.toNat_not]
    have d:(BitVec.ofInt 64 (b:Int)).toNat=b:=by simp[BitVec.toNat_ofInt];omega
    have c:(BitVec.ofInt 64 9223372036854775808).toNat=9223372036854775808:=by decide
    rw[d,c]
    have a:b&&& (2^64-1-9223372036854775808)=b%2^63:=by
      rw[<- Nat.and_two_pow_sub_one_eq_mod]
    rw[a]
    omega
  show IntKind.u64.wrap ((BitVec.ofInt 64 (b:Int)&&& ~~~BitVec.ofInt 64 9223372036854775808).toNat:Int)=_
  rw[e,IntWalk.u64_in _ oO]
  omega
theorem compl_i64(n:Int)(d:0<=n)(c:n<=9223372036854775807):aiq .xor .i64 (-1) n = -1-n:=by
  have e:(BitVec.ofInt 64 (-1) ^^^ BitVec.ofInt 64 n).toNat=18446744073709551615-n.toNat:=by
    have a:BitVec.ofInt 64 (-1)=BitVec.allOnes 64:=by decide
    rw[a,BitVec.allOnes_xor,BitVec.toNat_not]
    have b:(BitVec.ofInt 64 n).toNat=n.toNat:=by simp[BitVec.toNat_ofInt];omega
    rw[b]
  show IntKind.i64.wrap ((BitVec.ofInt 64 (-1) ^^^ BitVec.ofInt 64 n).toNat:Int)=_
  rw[e,IntKind.wrap_i64]
  omega
theorem shr63(b:Nat)(a:b<18446744073709551616):(b:Int).fdiv (2^(min (63:Int).toNat IntKind.u64.bits))=if 9223372036854775808<=b then 1 else 0:=by
  show (b:Int).fdiv 9223372036854775808=_
  rw[Int.fdiv_eq_ediv_of_nonneg _ oO]
  split<;>omega
theorem key_neg(b:Nat)(c:b<18446744073709551616)(e:isNaN b=false)(a:(b:Int).fdiv (2^(min (63:Int).toNat IntKind.u64.bits))=1):
    aiq .xor .i64 (if IntKind.i64.signed then -1 else IntKind.i64.max) (IntKind.i64.wrap (aiq .andNot .u64 (b:Int) 9223372036854775808))=key b:=by
  rw[shr63 b c] at a
  have d:9223372036854775808<=b:=by
    by_cases h:9223372036854775808<=b
    · exact h
    · rw[if_neg h] at a;cases a
  rw[key_neg_eq e d,andNot_top b d c,wrap_i64 oO]
  exact compl_i64 _ oO oO
theorem key_pos(b:Nat)(c:b<18446744073709551616)(e:isNaN b=false)(a : ¬(b:Int).fdiv (2^(min (63:Int).toNat IntKind.u64.bits))=1):IntKind.i64.wrap (b:Int)=key b:=by
  rw[shr63 b c] at a
  have d:b<9223372036854775808:=by
    by_cases h:9223372036854775808<=b
    · rw[if_pos h] at a;exact absurd rfl a
    · omega
  rw[key_pos_eq e d,wrap_i64 oO]
theorem canon_lt'{b:Nat}(h:b<18446744073709551616):(canon b:Int)<18446744073709551616:=by
  have:=canon_lt h;omega
theorem place_neg(b:Nat)(a:b<18446744073709551616)(h:9223372036854775808<=((canon b:Nat):Int)):IntKind.i64.wrap (-1-IntKind.i64.wrap (IntKind.u64.wrap ((canon b:Nat)-9223372036854775808)))=place b:=by
  have:=canon_lt' a
  rw[IntWalk.u64_in _ oO,wrap_i64 (n:=(canon b:Int)-9223372036854775808) oO,wrap_i64 oO,place,if_pos oO]
theorem place_pos(b:Nat)(a:b<18446744073709551616)(h:((canon b:Nat):Int)<9223372036854775808):IntKind.i64.wrap ((canon b:Nat):Int)=place b:=by
  rw[wrap_i64 oO,place,if_neg oO]
theorem bux(b:Nat)(w:World):Ret Tryz.prog 151 [.float .f64 b] w λv w'=>v = .bool (isNaN b)/\w=w':=by
 refine Ret.enter Tryz.func151 rfl rfl ?_;refine Sr λ_ c=>za rfl (zz (c (Sr λ_ a=>zm rfl (zm rfl ?_))));refine WL.ev (Ev.fneq rfl rfl) rfl ?_;refine za rfl (zz (a ?_));refine zr (zr1 rfl rfl ?_);exact ⟨by rw[brj],rfl⟩
theorem ccx(w:World):Ret Tryz.prog 77 [] w λv w'=>v = .float .f64 9221120237041090560/\w=w':=by
 refine Ret.enter Tryz.func77 rfl rfl ?_;refine Sr λ_ b=>za rfl (zz (b (Sr λ_ a=>?_)));refine WL.ev (Ev.ext rfl (ext82 _ _)) rfl ?_;refine za rfl (zz (a ?_));refine zr (zr1 rfl rfl ?_);exact ⟨rfl,rfl⟩
theorem cbj(b:Nat)(m:b<18446744073709551616)(w:World):Ret Tryz.prog 166 [.float .f64 b] w λv w'=>v = .int .i64 (key b)/\w=w':=by
 refine Ret.enter Tryz.func166 rfl rfl ?_;refine Sr λ_ l=>za rfl (zz (l (zc λ_ k=>Sr λ_ j=>zm rfl (zm rfl ?_))));refine WL.ev (Ev.fneq rfl rfl) rfl ?_;refine zz (j ?_);refine zy rfl (λa=>?_) λa=>?_
 ·rw[brj] at a;refine Sr λ_ i=>za rfl (zz (i ?_));refine zr (zr1 rfl rfl ?_);exact ⟨by simp[key,a],rfl⟩
 rw[brj] at a;refine zkk (k (Sr λ_ h=>zm rfl ?_));refine WL.ev (Ev.ext rfl (ext48 _ _)) rfl ?_;refine za rfl (zz (h (zc λ_ g=>Sr λ_ f=>zm rfl ?_)));refine WL.ev (Ev.shr rfl rfl oO) rfl ?_;refine zq rfl rfl (zz (f ?_));refine zy rfl (λc=>?_) λc=>?_
 ·simp only[decide_eq_true_eq,decide_eq_false_iff_not] at c;refine Sr λ_ e=>zm rfl ?_;refine WL.ev (Ev.andNot rfl rfl) rfl ?_;refine WL.ev (Ev.conv rfl rfl) rfl ?_;refine WL.ev (Ev.compl rfl) rfl ?_;refine za rfl (zz (e ?_));refine zr (zr1 rfl rfl ?_);exact ⟨by rw[key_neg b m a c],rfl⟩
 simp only[decide_eq_true_eq,decide_eq_false_iff_not] at c;refine zkk (g (Sr λ_ d=>zm rfl ?_));refine WL.ev (Ev.conv rfl rfl) rfl ?_;refine za rfl (zz (d ?_));refine zr (zr1 rfl rfl ?_);exact ⟨by rw[key_pos b m a c],rfl⟩
theorem afj(a b:Nat)(o:a<18446744073709551616)(n:b<18446744073709551616)(w:World):Ret Tryz.prog 97 [.float .f64 a,.float .f64 b] w λv w'=>v = .int .i64 (c2q (key a) (key b))/\w=w':=by
 refine Ret.enter Tryz.func97 rfl rfl ?_;refine Sr λ_ m=>za rfl (zz (m (Sr λ_ l=>zm rfl ?_)));refine WL.call hasF166 rfl rfl (cbj _ o _) λv q h=>?_;obtain ⟨rfl,rfl⟩:=h;refine zm rfl ?_;refine WL.call hasF166 rfl rfl (cbj _ n _) λv p h=>?_;obtain ⟨rfl,rfl⟩:=h;refine za rfl (za rfl (zz (l (zc λ_ k=>CW.block (Sr λ_ j=>zm rfl (zm rfl (zL rfl rfl (za rfl (zz (j ?_))))))))));refine zy rfl (λd=>?_) λd=>?_
 ·simp only[decide_eq_true_eq,decide_eq_false_iff_not,Decidable.not_not,Bool.and_eq_true,Bool.or_eq_true,Bool.not_eq_true',ne_eq,Int.not_lt,Int.not_le] at d;refine Sr λ_ i=>za rfl (zz (i ?_));refine zr (zr1 rfl rfl ?_);exact ⟨by rw[c2q,if_pos d],rfl⟩
 simp only[decide_eq_true_eq,decide_eq_false_iff_not,Decidable.not_not,Bool.and_eq_true,Bool.or_eq_true,Bool.not_eq_true',ne_eq,Int.not_lt,Int.not_le] at d;refine Sr λ_ g=>zm rfl (zm rfl (zG rfl rfl (za rfl (zz (g ?_)))));refine zy rfl (λc=>?_) λc=>?_
 ·simp only[decide_eq_true_eq,decide_eq_false_iff_not,Decidable.not_not,Bool.and_eq_true,Bool.or_eq_true,Bool.not_eq_true',ne_eq,Int.not_lt,Int.not_le] at c;refine Sr λ_ f=>za rfl (zz (f ?_));refine zr (zr1 rfl rfl ?_);exact ⟨by rw[c2q,if_neg oO,if_pos c],rfl⟩
 simp only[decide_eq_true_eq,decide_eq_false_iff_not,Decidable.not_not,Bool.and_eq_true,Bool.or_eq_true,Bool.not_eq_true',ne_eq,Int.not_lt,Int.not_le] at c;refine zkk (k (Sr λ_ e=>za rfl (zz (e ?_))));refine zr (zr1 rfl rfl ?_);exact ⟨by rw[c2q,if_neg oO,if_neg oO],rfl⟩
theorem xZ(b:Nat)(i:b<18446744073709551616)(w:World):Ret Tryz.prog 191 [.float .f64 b] w λv w'=>v = .int .u64 (canon b:Nat)/\w=w':=by
 refine Ret.enter Tryz.func191 rfl rfl ?_;refine Sr λ_ h=>za rfl (zz (h (Sr λ_ g=>zm rfl ?_)));refine WL.ev (Ev.ext rfl (ext48 _ _)) rfl ?_;refine za rfl (zz (g (zc λ_ f=>Sr λ_ e=>zm rfl ?_)))
 first|refine WL.ev (Ev.dfq rfl rfl oO oO) rfl ?_|refine WL.ev (Ev.rem rfl rfl oO) rfl ?_
 refine zG rfl rfl (zz (e ?_));refine zy rfl (λa=>?_) λa=>?_
 ·simp only[decide_eq_true_eq,decide_eq_false_iff_not,Decidable.not_not,Bool.and_eq_true,Bool.or_eq_true,Bool.not_eq_true',ne_eq,Int.not_lt,Int.not_le] at a;refine Sr λ_ d=>za rfl (zz (d ?_));refine zr (zr1 rfl rfl ?_);exact ⟨by rw[canon,if_pos (by simp only[isNaN,decide_eq_true_eq];omega)];rfl,rfl⟩
 simp only[decide_eq_true_eq,decide_eq_false_iff_not,Decidable.not_not,Bool.and_eq_true,Bool.or_eq_true,Bool.not_eq_true',ne_eq,Int.not_lt,Int.not_le] at a;refine zkk (f (Sr λ_ c=>zm rfl (za rfl (zz (c ?_)))));refine zr (zr1 rfl rfl ?_);exact ⟨by rw[canon,if_neg (by simp only[isNaN,decide_eq_true_eq];omega)],rfl⟩
theorem alj(b:Nat)(j:b<18446744073709551616)(w:World):Ret Tryz.prog 171 [.float .f64 b] w λv w'=>v = .int .i64 (place b)/\w=w':=by
 refine Ret.enter Tryz.func171 rfl rfl ?_;refine Sr λ_ i=>za rfl (zz (i (Sr λ_ g=>zm rfl ?_)));refine WL.call hasF191 rfl rfl (xZ _ j _) λv k h=>?_;obtain ⟨rfl,rfl⟩:=h;refine za rfl (zz (g (zc λ_ f=>Sr λ_ e=>zm rfl ?_)));refine WL.ev (Ev.geq rfl rfl) rfl ?_;refine zz (e ?_);refine zy rfl (λa=>?_) λa=>?_
 ·simp only[decide_eq_true_eq,decide_eq_false_iff_not,Decidable.not_not,Bool.and_eq_true,Bool.or_eq_true,Bool.not_eq_true',ne_eq,Int.not_lt,Int.not_le] at a;refine Sr λ_ d=>zm rfl ?_;refine WL.ev (Ev.sub rfl rfl) rfl ?_;refine WL.ev (Ev.conv rfl rfl) rfl ?_
  first|refine WL.ev (Ev.dX rfl rfl oO) rfl ?_|refine WL.ev (Ev.sub rfl rfl) rfl ?_
  refine za rfl (zz (d ?_));refine zr (zr1 rfl rfl ?_);exact ⟨by rw[place_neg b j a],rfl⟩
 simp only[decide_eq_true_eq,decide_eq_false_iff_not,Decidable.not_not,Bool.and_eq_true,Bool.or_eq_true,Bool.not_eq_true',ne_eq,Int.not_lt,Int.not_le] at a;refine zkk (f (Sr λ_ c=>zm rfl ?_));refine WL.ev (Ev.conv rfl rfl) rfl ?_;refine za rfl (zz (c ?_));refine zr (zr1 rfl rfl ?_);exact ⟨by rw[place_pos b j a],rfl⟩
theorem kZ(a b:Nat)(q:a<18446744073709551616)(p:b<18446744073709551616)(w:World):Ret Tryz.prog 99 [.float .f64 a,.float .f64 b] w λv w'=>v = .int .i64 (c2q (place a) (place b))/\w=w':=by
 refine Ret.enter Tryz.func99 rfl rfl ?_;refine Sr λ_ o=>za rfl (zz (o (Sr λ_ n=>zm rfl ?_)));refine WL.call hasF171 rfl rfl (alj _ q _) λv s h=>?_;obtain ⟨rfl,rfl⟩:=h;refine za rfl (zz (n (Sr λ_ m=>zm rfl ?_)));refine WL.call hasF171 rfl rfl (alj _ p _) λv r h=>?_;obtain ⟨rfl,rfl⟩:=h;refine za rfl (zz (m (zc λ_ l=>Sr λ_ k=>zm rfl (zm rfl (zL rfl rfl (zz (k ?_)))))));refine zy rfl (λd=>?_) λd=>?_
 ·simp only[decide_eq_true_eq,decide_eq_false_iff_not,Decidable.not_not,Bool.and_eq_true,Bool.or_eq_true,Bool.not_eq_true',ne_eq,Int.not_lt,Int.not_le] at d;refine Sr λ_ j=>za rfl (zz (j ?_));refine zr (zr1 rfl rfl ?_);exact ⟨by rw[c2q,if_pos d],rfl⟩
 simp only[decide_eq_true_eq,decide_eq_false_iff_not,Decidable.not_not,Bool.and_eq_true,Bool.or_eq_true,Bool.not_eq_true',ne_eq,Int.not_lt,Int.not_le] at d;refine zkk (l (zc λ_ i=>Sr λ_ g=>zm rfl (zm rfl (zG rfl rfl (zz (g ?_))))));refine zy rfl (λc=>?_) λc=>?_
 ·simp only[decide_eq_true_eq,decide_eq_false_iff_not,Decidable.not_not,Bool.and_eq_true,Bool.or_eq_true,Bool.not_eq_true',ne_eq,Int.not_lt,Int.not_le] at c;refine Sr λ_ f=>za rfl (zz (f ?_));refine zr (zr1 rfl rfl ?_);exact ⟨by rw[c2q,if_neg oO,if_pos c],rfl⟩
 simp only[decide_eq_true_eq,decide_eq_false_iff_not,Decidable.not_not,Bool.and_eq_true,Bool.or_eq_true,Bool.not_eq_true',ne_eq,Int.not_lt,Int.not_le] at c;refine zkk (i (Sr λ_ e=>za rfl (zz (e ?_))));refine zr (zr1 rfl rfl ?_);exact ⟨by rw[c2q,if_neg oO,if_neg oO],rfl⟩
theorem atq(b:Int)(w:World):Ret Tryz.prog 90 [.int .u64 b] w λv w'=>v = .float .f64 b.toNat/\w=w':=by
 refine Ret.enter Tryz.func90 rfl rfl ?_;refine Sr λ_ c=>za rfl (zz (c (Sr λ_ a=>zm rfl ?_)));refine WL.ev (Ev.ext rfl (ext82 _ _)) rfl ?_;refine za rfl (zz (a ?_));refine zr (zr1 rfl rfl ?_);exact ⟨rfl,rfl⟩
theorem kX(a b:Nat)(w:World):Ret Tryz.prog 41 [.float .f64 a,.float .f64 b] w λv w'=>v = .bool (decide (a=b))/\w=w':=by
 refine Ret.enter Tryz.func41 rfl rfl ?_;refine Sr λ_ d=>za rfl (zz (d (Sr λ_ c=>zm rfl ?_)));refine WL.ev (Ev.ext rfl (ext48 _ _)) rfl ?_;refine zm rfl ?_;refine WL.ev (Ev.ext rfl (ext48 _ _)) rfl ?_;refine zq rfl rfl (za rfl (zz (c ?_)));refine zr (zr1 rfl rfl ?_);exact ⟨by congr 1;rw[decide_eq_decide];omega,rfl⟩
end
section
open Go Sx Wd Fl
theorem RW.one_f{w:World}{b n:Nat}{E:TypeId}{f:Nat->Value}{v:Value}(h:w.heap[b]?=some (.cells [v].toArray E (0,0)))(a:f n=v):RW w (some ⟨b,0,none⟩) ([n].map f):=by
  have c:[n].map f=[v]:=by rw[List.map_cons,List.map_nil,a]
  rw[c];exact RW.of_heap h
namespace Sx
section
variable {P:Program} {A:AQ} {n:Nat} {D:List Deferred} {s:Sl} {w:World} {ops:Array Oper} {K:KK} {S:World->Prop} {z fuel:Nat} {listed:Array Bool}
variable {op:Op} {ty:TypeId} {pos:String} {af:Array Edge} {d:Nat} {v:Value} {x y:Operand}
theorem CW.regionKT{b:Nat}{l:List Oper}(a:List Nat)(z m:Nat)(c:l.length=m)(d:P.follows .mixedOrders=true)
    (h : ∀ R:KK,(∀ D s w,A .normal D s w->R D s w)->Chg a w.drew w.drew->Chg [] w w.drew->WK P l.toArray R (Chg a w.drew) z m (Array.replicate m false) n D s w.drew):CW P (.region b l.toArray true) A n D s w:=
  CW.regionK (Chg a w.drew) z m c d λR hR=>h R hR (Chg.refl _ _) (Chg.drew _ _)
theorem WK.growL(i:Nat){t e A:Nat}{U:TypeDesc}{ze:Value}{C r:Nat}{B:Value}{v:Value}{f:Nat->Value}{lo:Nat}{X:List Nat}{l news:List Nat}{a:Option Addr}{mm c:Nat}[hT:aZ P t (.slice e) C r B][hE:aZ P e U 1 A ze]
    (J:ops[i]?=some ⟨some d,.call ⟨.builtin .append,[x,y].toArray,#[t,t]⟩,ty,pos,af,none⟩) (H:Region.ready .any ops listed=[i])
    (h:ze.cells.size=1) (T : ∀ i,(f i).oneCell'=true) (G:g8 s x=some v) (F:g8 s y=some (.slice a mm c)) (M:GR w e f lo X v l) (I:mm=news.length) (j:RW w a (news.map f)) (m:lo<=w.heap.size) (R : ∀ b∈X,b<w.heap.size)
    (g:(l.length+news.length)*A<=140737488355328) (q:l.length+news.length<=70368744177664) (Q:Nat.blt d n=true)
    (p : ∀ w',Chg v.ownBlock.toList w w'->(listed.setIfInBounds i true).getD z false=false->S w')
    (k : ∀ v' w',GR w' e f lo X v' (l++news)->Chg v.ownBlock.toList w w'->WK P ops K S z fuel (listed.setIfInBounds i true) n D ((d,v')::s) w'):WK P ops K S z (fuel+1) listed n D s w:=by
  obtain ⟨v',w',O,o,u⟩:=drq (P:=P) (s:=s) (ty:=ty) (t:=t) (hT:=hT) (hE:=hE) h T G F M I j m R g q
  exact WK.one i J H O (p w' u) Q (k v' w' o u)
theorem WK.bgq(i:Nat){c:World}{f:List Nat}{t e:TypeId}{C:TypeDesc}{p h a F:Nat}{o ze:Value}{j:List (Nat×Operand)}{vs:List (Nat×Value)}{cs:List Value}{m:Nat}[hT:aZ P t (.slice e) p h o][hE:aZ P e C a F ze]
    (x:ops[i]?=some ⟨some d,.buildSlice t m j.toArray,ty,pos,af,none⟩) (r:Region.ready .any ops listed=[i]) (l:Chg f c w)
    (v:m*a<=2^24) (u:0<m*a) (q:bnx s j=some vs) (y:Instr.fill (λi=>some (i*a,a)) ((Array.range (m*a)).map (ze.cells[· % ze.cells.size]!)) vs=some cs.toArray) (B:Nat.blt d n=true)
    (k : ∀ b w',New w b (.cells cs.toArray e) w'->Chg f c w'->WK P ops K (Chg f c) z fuel (listed.setIfInBounds i true) n D ((d,.slice (some ⟨b,0,none⟩) m m)::s) w'):WK P ops K (Chg f c) z (fuel+1) listed n D s w:=by
  obtain ⟨b,w',A,g⟩:=aox (P:=P) (ty:=ty) (w:=w) (t:=t) (hT:=hT) (hE:=hE) v u q y
  exact WK.one i x r A (λ_=>l.trans (Chg.any g.chg)) B (k b w' g (l.trans (Chg.any g.chg)))
end
end Sx
end
section
open Go Sx Wd Fl
namespace Sx
section
variable {P:Program} {n:Nat} {D:List Deferred} {s:Sl} {w:World} {ops:Array Oper} {K:KK} {rest:List Oper} {ty:TypeId} {pos:String} {af:Array Edge} {x y:Operand}
end
end Sx
end
section
open Go Sx Wd Fl
namespace Sx
section
variable {P:Program} {n:Nat} {D:List Deferred} {s:Sl} {w:World} {ops:Array Oper} {K:KK} {rest:List Oper} {ty:TypeId} {pos:String} {af:Array Edge} {d:Nat} {x y:Operand}
theorem Ev.det{f:Op}{v u:Value}{w' e:World}(i:Ev P s f ty w v w')(g:Ev P s f ty w u e):v=u/\w'=e:=by
  have a:=i (λx=>(g8 s x).getD undef) none "" #[] none (λx u h=>by simp[h])
  have b:=g (λx=>(g8 s x).getD undef) none "" #[] none (λx u h=>by simp[h])
  rw[a] at b
  injection b with c d
  injection c with c
  exact ⟨c,d⟩
theorem ev_growO{t e be:Nat}{de:TypeDesc}{ze:Value}{sz a8:Nat}{z:Value}{f:Nat->Value}{lo g cap k:Nat}{X:List Nat}{l news:List Nat}{Q:Addr}{mm c:Nat}[hT:aZ P t (.slice e) sz a8 z][hE:aZ P e de 1 be ze]
    (D:ze.cells.size=1) (h1 : ∀ i,(f i).oneCell'=true) (Y:g8 s x=some (.slice (some ⟨g,0,none⟩) k cap)) (V:g8 s y=some (.slice (some Q) mm c)) (hg:GR w e f lo X (.slice (some ⟨g,0,none⟩) k cap) l) (R:mm=news.length) (hr:RW w (some Q) (news.map f)) (H:lo<=w.heap.size) (hX : ∀ b∈X,b<w.heap.size)
    (h:(l.length+news.length)*be<=140737488355328) (a5:l.length+news.length<=70368744177664) :
    ∃ v' w',Ev P s (.call ⟨.builtin .append,[x,y].toArray,#[t,t]⟩) ty w v' w'/\GR w' e f lo X v' (l++news)/\Chg [g] w w'/\RW w' (some ⟨g,0,none⟩) (l.map f):=by
  obtain ⟨G,hk,c2⟩:=hg.rw_
  subst hk
  have n : ∀ j u,(news.map f)[j]?=some u->w.cell? (Q.add j)=some u:=λj u F=>by
    obtain ⟨b0,q,a⟩:=hr j u F
    cases q;exact a
  have v : ∀ u∈news.map f,u.oneCell'=true:=λu F=>by
    obtain ⟨i,_,rfl⟩:=List.mem_map.1 F
    exact h1 i
  by_cases hroom:l.length+mm<=cap
  · obtain ⟨v',w',T,M,hc⟩:=drq (P:=P) (s:=s) (ty:=ty) (t:=t) (hT:=hT) (hE:=hE) D h1 Y V hg R hr H hX h a5
    obtain ⟨i,hi,p,J,I⟩:=hE.inf
    obtain ⟨_,d⟩:=id hg.1
    rcases d with ⟨h0,_⟩|⟨g',cp,B,q,_,A,c0,c5,a3,Z⟩
    · cases h0
    · cases q
      have m:=run_append_room (P:=P) w t ty e i hT.und hi g l.length cap B A Q mm c (news.map f) (by rw[p];simp;omega) n v hroom (by rw[p,a3];simp;omega)
      have h2:Ev P s (.call ⟨.builtin .append,[x,y].toArray,#[t,t]⟩) ty w _ _:=λρ d' U af g9 C=>by
        have q:=C x _ Y
        have e2:=C y _ V
        simp[execOp,resolve,invoke,builtin,q,e2,m]
        exact ⟨rfl,rfl⟩
      obtain ⟨hv,hw⟩:=Ev.det T h2
      subst hv
      refine ⟨_,w',T,M,hc,?_⟩
      have h3:=M.rw_.1
      rw[List.map_append] at h3
      exact h3.append_left
  · obtain ⟨i,hi,p,J,I⟩:=hE.inf
    obtain ⟨v',w',m,ho,o⟩:=run_append_arg_grows (P:=P) (w:=w) t ty e i ze 1 be hT.und hi I p J D oO ⟨g,0,none⟩ l.length cap (l.map f) oS (λj u F=>by
      obtain ⟨b0,q,a⟩:=G j u F
      cases q;exact a) Q mm c (news.map f) oT n oO (by unfold maxLen;omega) (by rw[R];exact h)
    have O:Chg [] w w':=⟨o.os,o.tape,o.output,o.size,λj hj _=>o.block j hj (λT=>by cases T)⟩
    refine ⟨v',w',λρ d' U af g9 C=>?_,?_,Chg.any O,G.q5 O⟩
    · have q:=C x _ Y
      have e2:=C y _ V
      simp[execOp,resolve,invoke,builtin,q,e2,m]
    · obtain ⟨c1,d⟩:=ho
      rcases d with ⟨rfl,h0⟩|⟨g',cp,B,rfl,hb,r⟩
      · exfalso;omega
      · refine ⟨⟨by simp,.inr ⟨g',cp,B,by rw[List.length_append,<- R],Nat.zero_le _,?_⟩⟩,λb a4=>?_⟩
        · rw[List.length_append,List.map_append,<- R];exact r
        · cases a4
          exact ⟨Nat.le_trans H hb,λa0=>by have h9:g'<w.heap.size:=hX _ a0;omega⟩
end
end Sx
end
section
open Go Sx Wd Fl
def Apart(val:Nat->Value)(n:Nat):Prop:=∀ p q b,p<n->q<n->p≠q->(val p).ownBlock=some b->(val q).ownBlock≠some b
def Rows_(w:World)(e:TypeId)(lo:Nat)(X:List Nat)(val:Nat->Value)(L:Nat->List Nat)(n:Nat):Prop:=∀ p,p<n->GR w e bix lo X (val p) (L p)
def lput(L:Nat->List Nat)(p:Nat)(l:List Nat)(q:Nat):List Nat:=if q=p then l else L q
end
namespace Sx
open Go
section
variable {P:Program} {n:Nat} {D:List Deferred} {s:Sl} {w:World} {ops:Array Oper} {K:KK} {rest:List Oper} {ty:TypeId} {pos:String} {af:Array Edge} {d:Nat} {x y:Operand}
end
end Sx
section
open Go Sx Wd Fl
end
section
open Go Sx Wd Fl
def upF(lo:Nat)(w:World):List Nat:=List.range' lo (w.heap.size-lo)
theorem GR.ge{w:World}{e:TypeId}{f:Nat->Value}{lo:Nat}{X:List Nat}{v:Value}{l:List Nat}(h:GR w e f lo X v l): ∀ b∈v.ownBlock.toList,lo<=b:=λb hb=>(h.2 b (Option.mem_toList.1 hb)).1
structure MI(e lo n:Nat)(X:List Nat)(val:Nat->Value)(L:Nat->List Nat)(w:World):Prop where
  rows:Rows_ w e lo X val L (n+n)
  eq : ∀ i,i<n->L (n+i)=L i
  len : ∀ i,(L i).length<=1000000
  wd : ∀ i,∀ x∈L i,x<18446744073709551616
def Sep(v u:Value):Prop:=∀ b,v.ownBlock=some b->u.ownBlock≠some b
theorem GR.wide{w:World}{e:TypeId}{f:Nat->Value}{lo:Nat}{X Y:List Nat}{v:Value}{l:List Nat}(h:GR w e f lo X v l)(a : ∀ b∈Y,v.ownBlock≠some b):GR w e f lo Y v l:=
  ⟨h.1,λb hb=>⟨(h.2 b hb).1,λhm=>a b hm hb⟩⟩
def chj(w:World)(v v':Value):Prop:=∀ b,v'.ownBlock=some b->v.ownBlock=some b\/w.heap.size<=b
def butB(w:World)(v:Value):List Nat:=(List.range w.heap.size).filter λb=>decide (v.ownBlock≠some b)
theorem butB_lt{w:World}{v:Value}: ∀ b∈butB w v,b<w.heap.size:=λb hb=>List.mem_range.1 (List.mem_filter.1 hb).1
theorem butB_own{w:World}{v:Value}: ∀ b∈butB w v,v.ownBlock≠some b:=λb hb=>of_decide_eq_true (List.mem_filter.1 hb).2
theorem chj.of{w w':World}{e:TypeId}{f:Nat->Value}{lo:Nat}{v a:Value}{l:List Nat}(h:GR w' e f lo (butB w v) a l):chj w v a:=λb hb=>by
  by_cases q:w.heap.size<=b
  · exact .inr q
  · refine .inl (Classical.byContradiction λhn=>(h.2 b hb).2 ?_)
    exact List.mem_filter.2 ⟨List.mem_range.2 oO,decide_eq_true hn⟩
namespace Sx
section
variable {P:Program} {n:Nat} {D:List Deferred} {s:Sl} {w:World} {ops:Array Oper} {K:KK} {rest:List Oper} {ty:TypeId} {pos:String} {af:Array Edge} {d:Nat} {x y:Operand}
theorem ev_growV{t e J:Nat}{V:TypeDesc}{ze:Value}{O A:Nat}{z:Value}{f:Nat->Value}{lo:Nat}{X:List Nat}{v:Value}{l news:List Nat}{M:Addr}{mm c:Nat}[hT:aZ P t (.slice e) O A z][hE:aZ P e V 1 J ze]
    (j:ze.cells.size=1) (H : ∀ i,(f i).oneCell'=true) (C:g8 s x=some v) (B:g8 s y=some (.slice (some M) mm c)) (G:GR w e f lo X v l) (F:mm=news.length) (D:RW w (some M) (news.map f)) (n:lo<=w.heap.size)
    (d:(l.length+news.length)*J<=140737488355328) (p:l.length+news.length<=70368744177664) :
    ∃ v' w',Ev P s (.call ⟨.builtin .append,[x,y].toArray,#[t,t]⟩) ty w v' w'/\GR w' e f lo [] v' (l++news)/\Chg v.ownBlock.toList w w'/\chj w v v'/\∀ a m c,v = .slice a m c->RW w' a (l.map f):=by
  have o:=G.wide (Y:=butB w v) butB_own
  rcases bmx G.1 with ⟨rfl,T,Q⟩|⟨g,Z,rfl,q,_,_⟩
  · obtain ⟨v',w',r,h,q⟩:=drq (P:=P) (s:=s) (ty:=ty) (t:=t) (hT:=hT) (hE:=hE) j H C B o F D n butB_lt d p
    have R:l=[]:=List.length_eq_zero_iff.1 T
    refine ⟨v',w',r,h.wide (λb u=>by cases u),q,chj.of h,λa m c I=>?_⟩
    rw[R];exact RW.nil
  · obtain ⟨v',w',r,h,q,k⟩:=ev_growO (P:=P) (s:=s) (ty:=ty) (t:=t) (hT:=hT) (hE:=hE) j H C B o F D n butB_lt d p
    refine ⟨v',w',r,h.wide (λb u=>by cases u),q,chj.of h,λa m c I=>?_⟩
    injection I with U e3 e4
    rw[<- U];exact k
theorem WL.growV{t e q:Nat}{R:TypeDesc}{ze:Value}{u p:Nat}{z:Value}{f:Nat->Value}{lo:Nat}{X:List Nat}{v:Value}{l news:List Nat}{r:Addr}{mm c:Nat}[hT:aZ P t (.slice e) u p z][hE:aZ P e R 1 q ze]
    (g:ze.cells.size=1) (Q : ∀ i,(f i).oneCell'=true) (B:g8 s x=some v) (A:g8 s y=some (.slice (some r) mm c)) (I:GR w e f lo X v l) (H:mm=news.length) (F:RW w (some r) (news.map f)) (h:lo<=w.heap.size)
    (b:(l.length+news.length)*q<=140737488355328) (o:l.length+news.length<=70368744177664) (M:Nat.blt d n=true)
    (k : ∀ v' w',GR w' e f lo [] v' (l++news)->Chg v.ownBlock.toList w w'->chj w v v'->(∀ a m c,v = .slice a m c->RW w' a (l.map f))->WL P ops K rest n D ((d,v')::s) w') :
    WL P ops K (⟨some d,.call ⟨.builtin .append,[x,y].toArray,#[t,t]⟩,ty,pos,af,none⟩::rest) n D s w:=by
  obtain ⟨v',w',J,j,O,C,G⟩:=ev_growV (P:=P) (s:=s) (ty:=ty) (t:=t) (hT:=hT) (hE:=hE) g Q B A I H F h b o
  exact WL.ev J M (k v' w' j O C G)
end
end Sx
structure PE(i n k lo:Nat)(fO fW:Nat->Value)(L:Nat->List Nat)(w:World):Prop where
  g : ∀ p,i<=p->p<n->GR w 31 bix lo [] (fO p) (L p)
  len : ∀ p,i<=p->p<n->(L p).length<=1000000
  s : ∀ p,i<=p->p<n->∀ q,q<k->(q≠p->Sep (fO q) (fO p))/\Sep (fW q) (fO p)
section
variable {i n k kO kW lo bk:Nat} {vO vW:Value} {fO fW:Nat->Value} {L:Nat->List Nat} {vl vw v':Value} {l1 l2 l3:List Nat} {w w':World}
end
end
section
open Go Sx Wd Fl
theorem GR.cells{w:World}{e:TypeId}{f:Nat->Value}{lo b:Nat}{X:List Nat}{v:Value}{l:List Nat}(h:GR w e f lo X v l)(c:v.ownBlock=some b): ∃ cur,w.heap[b]?=some (.cells cur e (0,0)):=by
  rcases h.1.2 with ⟨rfl,_⟩|⟨g,d,cur,rfl,_,a,_⟩
  · cases c
  · cases c;exact ⟨cur,a⟩
theorem GR.dlj{w:World}{e T:TypeId}{f:Nat->Value}{lo bk:Nat}{X:List Nat}{v:Value}{l:List Nat}{cs:List Value}(h:GR w e f lo X v l)(b:BK w bk T cs)(a:e≠T):v.ownBlock≠some bk:=λh1=>by
  obtain ⟨c1,q1⟩:=h.cells h1
  have q2:w.heap[bk]?=some (.cells cs.toArray T (0,0)):=b
  rw[q1] at q2
  injection q2 with q2
  injection q2 with _ q3
  exact a q3
end
section
open Go Sx Wd
def PQ(w:World)(e:TypeId)(es lo:Nat)(v:Value)(m:Nat)(cs:List Value):Prop:=
  (v = .slice none 0 0/\m=0/\cs=[])\/∃ g cap cur,v = .slice (some ⟨g,0,none⟩) m cap/\lo<=g/\w.heap[g]?=some (.cells cur e (0,0))/\cap*es<=cur.size/\m<=cap/\cap<=maxLen/\cs.length=m*es/\cur.toList.take (m*es)=cs/\∀ c∈cur.toList,abq c=false
section
variable {w w':World} {e:TypeId} {es lo m:Nat} {v:Value} {cs:List Value}
theorem PQ.nil:PQ w e es lo (.slice none 0 0) 0 []:=.inl ⟨rfl,rfl,rfl⟩
theorem PQ.gZ{T:List Nat}(h:PQ w e es lo v m cs)(f:Chg T w w')(hT : ∀ b∈T,v.ownBlock≠some b):PQ w' e es lo v m cs:=by
  rcases h with h|⟨g,c,a,rfl,k,j,i⟩
  · exact .inl h
  · exact .inr ⟨g,c,a,rfl,k,f.heap j (λd=>hT _ d rfl),i⟩
theorem PQ.q5(h:PQ w e es lo v m cs)(a:Chg [] w w'):PQ w' e es lo v m cs:=h.gZ a (λb hb=>by cases hb)
theorem PQ.ge(h:PQ w e es lo v m cs){b:Nat}(a:v.ownBlock=some b):lo<=b:=by
  rcases h with ⟨rfl,_⟩|⟨g,f,d,rfl,c,_⟩
  · cases a
  · cases a;exact c
theorem PQ.lt(h:PQ w e es lo v m cs){b:Nat}(a:v.ownBlock=some b):b<w.heap.size:=by
  rcases h with ⟨rfl,_⟩|⟨g,f,d,rfl,_,c,_⟩
  · cases a
  · cases a;exact azx c
theorem PQ.cells(h:PQ w e es lo v m cs){b:Nat}(a:v.ownBlock=some b): ∃ cur,w.heap[b]?=some (.cells cur e (0,0))/\∀ c∈cur.toList,abq c=false:=by
  rcases h with ⟨rfl,_⟩|⟨g,i,cur,rfl,_,f,_,_,_,_,_,d⟩
  · cases a
  · cases a;exact ⟨cur,f,d⟩
theorem PQ.dlj{T:TypeId}{b:Nat}{l:List Value}(h:PQ w e es lo v m cs)(c:BK w b T l)(a:e≠T):v.ownBlock≠some b:=λq=>by
  obtain ⟨cur,hc,_⟩:=h.cells q
  have:=hc.symm.trans c
  simp at this
  exact a this.2
theorem PQ.q8{b:Nat}{T:TypeId}{l:List Value}(h:PQ w e es lo v m cs)(f:BK w b T l)(d:Chg [b] w w')(_ : ∀ c∈l,abq c=false)(a:e≠T:=by decide):PQ w' e es lo v m cs:=h.gZ d λx hx=>by
  rw[List.mem_singleton.1 hx];exact h.dlj f a
theorem PQ.row(h:PQ w e es lo v m cs): ∃ a c,v = .slice a m c/\m<=c/\RW w a cs/\cs.length=m*es:=by
  rcases h with ⟨rfl,rfl,rfl⟩|⟨g,f,d,rfl,x,o,t,n,s,l,k,r⟩
  · exact ⟨none,0,rfl,Nat.le_refl _,RW.nil,by simp⟩
  · refine ⟨_,f,rfl,n,λi u b=>⟨_,rfl,?_⟩,l⟩
    have j:BK w g e d.toList:=by unfold BK;simpa using o
    have q:=(List.getElem?_eq_some_iff.1 b).1
    have p:(⟨g,0,none⟩:Addr).add i=⟨g,i,none⟩:=by unfold Addr.add;split<;>simp_all
    rw[p]
    refine j.at_ ?_
    rw[<- k] at b
    rw[List.getElem?_take] at b
    split at b
    · exact b
    · cases b
theorem PQ.sl(h:PQ w e es lo v m cs): ∃ a c,v = .slice a m c:=by
  obtain ⟨a,c,b,_⟩:=h.row
  exact ⟨a,c,b⟩
theorem Sx.BK.news{b:Nat}{T:TypeId}{l:List Value}(h:BK w b T l): ∀ j q,l[j]?=some q->w.cell? ((⟨b,0,none⟩:Addr).add j)=some q:=λj q hq=>by
  have e1:(⟨b,0,none⟩:Addr).add j=⟨b,j,none⟩:=by unfold Addr.add;split<;>simp_all
  rw[e1];exact h.at_ hq
theorem PQ.nu{x:Value}{l:List Nat}(h:PQ w e es lo v m cs)(c:Chg v.ownBlock.toList w w')(b:NU w x l):NU w' x l:=by
  rcases h with ⟨rfl,_⟩|⟨g,j,a,rfl,r,i,q,p,o,n,k,f⟩
  · exact b.q5 c
  · have d:BK w g e a.toList:=by unfold BK;simpa using i
    exact b.q8 d c f
theorem PQ.bk{T:TypeId}{b:Nat}{l:List Value}(h:PQ w e es lo v m cs)(d:Chg v.ownBlock.toList w w')(c:BK w b T l)(a:e≠T):BK w' b T l:=
  c.gZ d (λhm=>h.dlj c a (Option.mem_toList.1 hm))
theorem PQ.frame{T:List Nat}{a:World}(h:PQ w e es lo v m cs)(d:Chg v.ownBlock.toList w w')(c:Chg T a w)(b:a.heap.size<=lo):Chg T a w':=
  c.step d λy hy=>.inr (Nat.le_trans b (h.ge (Option.mem_toList.1 hy)))
theorem PQ.other{e':TypeId}{d a i:Nat}{g:Value}{f:List Value}(h:PQ w e es lo v m cs)(k:PQ w e' d a g i f)(j:Chg g.ownBlock.toList w w')(c:e≠e'):PQ w' e es lo v m cs:=h.gZ j λb hb q=>by
  obtain ⟨cur,h1,_⟩:=h.cells q
  obtain ⟨cur',h2,_⟩:=k.cells (Option.mem_toList.1 hb)
  have:=h1.symm.trans h2
  simp at this
  exact c this.2
theorem mem_zero{z:Array Value}{n:Nat}{c:Value}(h:c∈(Builtin.zeroCells z n).toList)(a:0<z.size):c∈z.toList:=by
  unfold Builtin.zeroCells at h
  rw[Array.toList_map] at h
  obtain ⟨i,_,rfl⟩:=List.mem_map.1 h
  have:i%z.size<z.size:=Nat.mod_lt _ a
  rw[getElem!_pos z (i%z.size) this]
  exact Array.mem_toList_iff.2 (Array.getElem_mem this)
theorem pq_new{ze:Value}(d:ze.cells.size=es)(l:0<es)(f : ∀ c∈ze.cells.toList,abq c=false){cap:Nat}(g:cs.length=m*es)(b:m<=cap)(a:cap<=maxLen)(k : ∀ c∈cs,abq c=false)(h:lo<=w.heap.size):
    PQ (w.drew.alloc (.cells (cs.toArray++Builtin.zeroCells ze.cells (cap-m)) e)) e es lo (.slice (some ⟨w.heap.size,0,none⟩) m cap) m cs:=by
  have j:(Builtin.zeroCells ze.cells (cap-m)).size=(cap-m)*es:=by rw[size_zeroCells,d]
  refine .inr ⟨w.heap.size,cap,_,rfl,h,heap_alloc_new w.drew _,?_,b,a,g,?_,λc i=>?_⟩
  · rw[Array.size_append,j,List.size_toArray,g,<- Nat.add_mul,show m+(cap-m)=cap by omega];exact Nat.le_refl _
  · rw[Array.toList_append,<- g];exact List.take_left
  · rw[Array.toList_append] at i
    rcases List.mem_append.1 i with q|q
    · exact k c q
    · exact f c (mem_zero q oO)
end
namespace Sx
section
variable {P:Program} {n:Nat} {D:List Deferred} {s:Sl} {w:World} {ops:Array Oper} {K:KK} {rest:List Oper} {ty:TypeId} {pos:String} {af:Array Edge} {d:Nat} {x y:Operand}
theorem ev_appQ{t e n be:Nat}{de:TypeDesc}{ze:Value}{sz b9:Nat}{z:Value}{v:Value}{lo m:Nat}{cs news:List Value}{M:Addr}{c:Nat}[hT:aZ P t (.slice e) sz b9 z][hE:aZ P e de n be ze]
    (Q:ze.cells.size=n) (Z:0<n) (R : ∀ c∈ze.cells.toList,abq c=false) (hx:g8 s x=some v) (hy:g8 s y=some (.slice (some M) 1 c)) (h:PQ w e n lo v m cs) (G:news.length=n) (f : ∀ j q,news[j]?=some q->w.cell? (M.add j)=some q) (h1 : ∀ q∈news,q.oneCell'=true) (C : ∀ q∈news,abq q=false) (V:lo<=w.heap.size) (c3:m<=1000000) (b7:be<=64) :
    ∃ v' w',Ev P s (.call ⟨.builtin .append,[x,y].toArray,#[t,t]⟩) ty w v' w'/\PQ w' e n lo v' (m+1) (cs++news)/\Chg v.ownBlock.toList w w'/\(∀ b,v'.ownBlock=some b->v.ownBlock=some b\/w.heap.size<=b):=by
  have b8:(m+1)*be<=140737488355328:=Nat.le_trans (Nat.mul_le_mul (by omega:m+1<=1000001) b7) oD
  obtain ⟨i,hi,A,Y,X⟩:=hE.inf
  have F:news.length=1*i.size:=by rw[A,Nat.one_mul];exact G
  have b4:m+1<=maxLen:=by unfold maxLen;omega
  have a0 : ∀ o:Obj,Chg v.ownBlock.toList w (w.drew.alloc o):=λo=>⟨rfl,rfl,rfl,by simp,λk hk _=>heap_alloc_old w.drew _ hk⟩
  rcases h with ⟨rfl,rfl,rfl⟩|⟨g,d,l,rfl,a1,a2,a3,a4,a5,a6,a7,a8⟩
  · have u:=run_append_nil (P:=P) w t ty e i ze hT.und hi X M 1 c news F f oD oD (by rw[Y];omega)
    refine ⟨_,_,λρ d' O af g' B=>?_,pq_new (cs:=[]++news) (m:=0+1) Q Z R (by simpa using G) (grownCap_ge w 1 0 e) (grownCap_le_maxLen w 1 0 e oD) (λq D=>C q (by simpa using D)) V,a0 _,λb hb=>by cases hb;exact .inr (Nat.le_refl _)⟩
    have p:=B x _ hx
    have J:=B y _ hy
    simp[execOp,resolve,invoke,builtin,p,J,u]
  · by_cases hroom:m+1<=d
    · have hf:=run_firstCells_some (P:=P) w i.size 1 M 1 c news F f
      have r:(m+1)*n<=d*n:=Nat.mul_le_mul_right _ hroom
      rw[Nat.add_mul,Nat.one_mul] at r
      have T:=run_storeCells_at P g (0+m*i.size) e news 0 l w a2 (by rw[A,G];omega) h1
      simp only[Nat.add_zero,Nat.zero_add] at T
      have u:(Builtin.append_ #[t,t] ty #[.slice (some ⟨g,0,none⟩) m d,.slice (some M) 1 c]).run P w =
          .ok (.slice (some ⟨g,0,none⟩) (m+1) d) (w.setRow g (l.toList.take (m*i.size)++news++l.toList.drop (m*i.size+news.length)).toArray):=by
        simp[Builtin.append_,run_underlying hT.und,sizeOf,typeInfo,hi,Builtin.lenOf,hroom,hf,Addr.add_lit,T]
      rw[A] at u
      have H:Ev P s (.call ⟨.builtin .append,[x,y].toArray,#[t,t]⟩) ty w (.slice (some ⟨g,0,none⟩) (m+1) d) (w.setRow g (l.toList.take (m*n)++news++l.toList.drop (m*n+news.length)).toArray):=λρ d' O af g' B=>by
        have p:=B x _ hx
        have J:=B y _ hy
        simp[execOp,resolve,invoke,builtin,p,J,u]
      refine ⟨_,_,H,.inr ⟨g,d,_,rfl,a1,setRow_heap w g l _ e _ a2,?_,hroom,a5,?_,?_,λq D=>?_⟩,⟨rfl,rfl,rfl,by simp,λk _ hk=>setRow_other w g k _ (λe=>hk (by simp[Value.ownBlock,e]))⟩,λb hb=>.inl hb⟩
      · simp only[List.size_toArray,List.length_append,List.length_take,List.length_drop,Array.length_toList,G]
        omega
      · rw[List.length_append,a6,G,Nat.add_mul,Nat.one_mul]
      · rw[a7,Nat.add_mul,Nat.one_mul]
        have:m*n+n=(cs++news).length:=by rw[List.length_append,a6,G]
        rw[this]
        exact List.take_left
      · rcases List.mem_append.1 D with z|z
        · rcases List.mem_append.1 z with y|y
          · exact a8 q (List.mem_of_mem_take y)
          · exact C q y
        · exact a8 q (List.mem_of_mem_drop z)
    · have U:RW w (some ⟨g,0,none⟩) cs:=by
        obtain ⟨a,c',p,_,u,_⟩:=PQ.row (lo:=lo) (.inr ⟨g,d,l,rfl,a1,a2,a3,a4,a5,a6,a7,a8⟩)
        cases p;exact u
      have u:=run_append_grow (P:=P) w t ty e i ze hT.und hi X ⟨g,0,none⟩ m d cs (by rw[A];exact a6) (λj q D=>by
        obtain ⟨d4,p,I⟩:=U j q D
        cases p;exact I) M 1 c news F f oO oO (growslice_fits oO (by rw[Y];exact b8))
      have H:Ev P s (.call ⟨.builtin .append,[x,y].toArray,#[t,t]⟩) ty w (.slice (some ⟨w.heap.size,0,none⟩) (m+1) (grownCap w (m+1) d e)) (w.drew.alloc (.cells ((cs++news).toArray++Builtin.zeroCells ze.cells (grownCap w (m+1) d e-(m+1))) e)):=λρ d' O af g' B=>by
        have p:=B x _ hx
        have J:=B y _ hy
        have e3:(cs++news).toArray=cs.toArray++news.toArray:=by simp
        rw[e3]
        simp only[execOp,resolve,invoke,builtin,p,J] at u ⊢
        simp[p,J,u,execOp,resolve,invoke,builtin]
      refine ⟨_,_,H,pq_new Q Z R (by rw[List.length_append,a6,G,Nat.add_mul,Nat.one_mul]) (grownCap_ge w (m+1) d e) (grownCap_le_maxLen w (m+1) d e b4) (λq D=>?_) V,a0 _,λb hb=>by cases hb;exact .inr (Nat.le_refl _)⟩
      rcases List.mem_append.1 D with z|z
      · rw[<- a7] at z
        exact a8 q (List.mem_of_mem_take z)
      · exact C q z
theorem WL.appQ{t e f B:Nat}{U:TypeDesc}{ze:Value}{F A:Nat}{z:Value}{v:Value}{lo m:Nat}{cs news:List Value}{C:Addr}{c:Nat}[hT:aZ P t (.slice e) F A z][hE:aZ P e U f B ze]
    (i:ze.cells.size=f) (r:0<f) (l : ∀ c∈ze.cells.toList,abq c=false) (H:g8 s x=some v) (G:g8 s y=some (.slice (some C) 1 c)) (h:PQ w e f lo v m cs) (J:news.length=f) (a : ∀ j q,news[j]?=some q->w.cell? (C.add j)=some q) (T : ∀ q∈news,q.oneCell'=true) (o : ∀ q∈news,abq q=false) (p:lo<=w.heap.size) (g:m<=1000000) (u:B<=64) (Q:Nat.blt d n=true)
    (k : ∀ v' w',PQ w' e f lo v' (m+1) (cs++news)->Chg v.ownBlock.toList w w'->(∀ b,v'.ownBlock=some b->v.ownBlock=some b\/w.heap.size<=b)->WL P ops K rest n D ((d,v')::s) w') :
    WL P ops K (⟨some d,.call ⟨.builtin .append,[x,y].toArray,#[t,t]⟩,ty,pos,af,none⟩::rest) n D s w:=by
  obtain ⟨v',w',O,I,R,M⟩:=ev_appQ (P:=P) (s:=s) (ty:=ty) (t:=t) (hT:=hT) (hE:=hE) i r l H G h J a T o p g u
  exact WL.ev O Q (k v' w' I R M)
end
end Sx
end
section
open Go Sx Wd Fl
theorem rep_get{p i:Nat}{L:List Nat}: (List.replicate p 0++L).getD (p+i) 0=L.getD i 0:=by
  rw[List.getD_eq_getElem?_getD,List.getElem?_append_right oS,List.length_replicate,Nat.add_sub_cancel_left,<- List.getD_eq_getElem?_getD]
theorem rep_set2{p i v:Nat}{L:List Nat}: (List.replicate p 0++L).set (p+i) v=List.replicate p 0++L.set i v:=by
  rw[List.set_append_right _ _ oS,List.length_replicate,Nat.add_sub_cancel_left]
theorem val_zeros2(k:Nat)(l:List Nat):val (List.replicate k 0++l)=val l*2^(32*k):=by
  rw[ayx,agx,List.length_replicate,Nat.zero_add,Nat.mul_comm]
structure KHi(l:List Nat)(p s:Nat)(w0:World)(b:Nat)(g:Nat×List Nat)(w:World):Prop where
  up:UpI l s g.1 g.2
  hB:OB w b 162 (List.replicate p 0++g.2)
  ch:Chg [] w0 w
theorem higher_spec(v:Value)(l:List Nat)(k p s:Nat)(w:World)(h:NU w v l)(a8:l.length<=1000000)(hk:k<=1000000000)(hp:p=k/32)(a6:s=k%32):Ret Tryz.prog 253 [v,.int .i64 (k:Int)] w λu w'=>∃ L,NU w' u L/\val L=val l*2^k/\Chg [] w w':=by
 obtain ⟨⟨al,cl,rfl,Y,C⟩,n,a9⟩:=h;have c:=crf w;have hs:s<32:=by omega
 have f:(k:Int)/32=(p:Int):=by omega
 have D:(k:Int)%32=(s:Int):=by omega
 refine zE2 Tryz.func253 rfl ?_;refine Sr λ_ T=>za rfl (zz (T (Sr λ_ R=>zm rfl ?_)));refine WL.ev (Ev.cax rfl rfl oO (by simp only[IntKind.max,IntKind.signed,IntKind.bits];omega) oO) rfl ?_;rw[f];refine zm rfl (zn rfl ?_);(first|refine zi rfl rfl ?_|refine zo rfl rfl ?_);(first|refine zi rfl rfl ?_|refine zo rfl rfl ?_);refine WL.baj (((p+(l).length)+1)) (((p+(l).length)+1)) rfl rfl oO oO oO oO oO rfl λJ a0 a m j=>?_;have o:=Nat.le_trans c.size j;have c:=c.ta m;refine za rfl (zz (R (zc λ_ Q=>Sr λ_ O=>zm rfl (zn rfl (zm rfl (zz (O (CW.block ?_))))))));refine CW.loop (S:=λg:Nat×List Nat=>[(1,.int .i64 (k:Int)),(5,.slice (some ⟨J,0,none⟩) (p+l.length+1) (p+l.length+1)),(16,.slice al l.length cl),(17,.int .i64 (l.length:Int)),(18,.int .i64 (g.1:Int))]) (Inv:=KHi l p s w J) (mu:=λg=>l.length-g.1) ((0,List.replicate (l.length+1) 0)) ?_ ?_ ?_
 ·exact ⟨UpI.zero l s,by rw[List.replicate_append_replicate,show p+(l.length+1)=p+l.length+1 by omega];exact a,c⟩
 ·exact SLp
 rintro ⟨i,L⟩ wr ⟨e,a,c⟩;dsimp only at e a c;dsimp only;have b0:=e.le;have b1:=e.len;have I:=e.w;refine Sr λ_ M=>zL rfl rfl (zz (M (zc λ_ B=>?_)));refine zy rfl ?_ ?_<;>intro Z<;>try simp only[qs] at Z
 ·have U:=e.step hs n oO;have a5:=n.getD i
  have X:(List.replicate p 0++L).getD (p+i) 0=L.getD i 0:=rep_get;have a2:=I.getD i;have V:(List.replicate p 0++L).length=p+l.length+1:=by simp;omega
  generalize hLL:List.replicate p 0++L=LL at *;refine zkk (B (zc λ_ A=>CW.block (Sr λ_ z=>zm rfl ?_)));refine WL.ev (Ev.ixR (i) rfl rfl (C.q5 c) oO oO oT) rfl ?_;refine WL.ev (Ev.load rfl rfl ((C.q5 c).u32 oF)) rfl ?_;have a1:=n.getD (i);refine za rfl (za rfl (zz (z (Sr λ_ y=>zm rfl ?_))));refine WL.ev (Ev.dZ rfl rfl (iZ oO)) rfl ?_;refine zm rfl ?_;refine WL.ev (Ev.dfq rfl rfl oO oO) rfl ?_;rw[D];refine WL.ev (Ev.apx rfl rfl) rfl ?_;refine za rfl (zz (y (Sr λ_ x=>zm rfl (zm rfl ?_))));refine WL.ev (Ev.cax rfl rfl oO (by simp only[IntKind.max,IntKind.signed,IntKind.bits];omega) oO) rfl ?_;rw[f];refine zm rfl ?_;(first|refine zi rfl rfl ?_|refine zo rfl rfl ?_);refine WL.ev (Ev.ixB ((p+i)) rfl rfl oO oO) rfl ?_;refine WL.ev (Ev.load rfl rfl (a.u32 oF)) rfl ?_;rw[X];refine zm rfl ?_;refine WL.ev (Ev.tZ rfl rfl) rfl ?_;refine WL.ev (Ev.orU rfl rfl rfl (by simp only[IntKind.bits];omega) (by simp only[IntKind.bits];omega)) rfl ?_;refine WL.ev (Ev.ixB ((p+i)) rfl rfl oO oO) rfl ?_;refine WL.sJ rfl rfl a (by first|omega|(simp;done)|(simp;omega)) λa4 d H=>?_;have c:=c.s1 H;have a:=d;refine zz (x ?_);refine zR λ_ r=>?_;refine zm rfl (zm rfl ?_);refine WL.ev (Ev.cax rfl rfl oO (by simp only[IntKind.max,IntKind.signed,IntKind.bits];omega) oO) rfl ?_;rw[f];refine zm rfl ?_;(first|refine zi rfl rfl ?_|refine zo rfl rfl ?_);(first|refine zi rfl rfl ?_|refine zo rfl rfl ?_);refine zm rfl ?_;refine WL.ev (Ev.atx (b:=32) rfl rfl (by simp only[IntKind.bits];omega)) rfl ?_;refine WL.ev (Ev.tZ rfl rfl) rfl ?_;refine WL.ev (Ev.ixB (((p+i)+1)) rfl rfl oO oO) rfl ?_;refine WL.sJ rfl rfl a (by first|omega|(simp;done)|(simp;omega)) λa3 d G=>?_;have c:=c.s1 G;have a:=d;refine WL.nil (r _ _ _ (A ?_));refine zS λ_ q=>?_;(first|refine zi rfl rfl ?_|refine zo rfl rfl ?_);refine zm rfl (zz (q ?_));refine ⟨rfl,(i+1,((L.set i (L.getD i 0||| (l.getD i 0*2^s%18446744073709551616%4294967296))).set (i+1) (l.getD i 0*2^s%18446744073709551616/2^32%4294967296))),?_,?_,?_⟩
  ·exact SLp
  ·refine ⟨U.2,?_,c⟩;rw[<- hLL,Nat.add_assoc,rep_set2,rep_set2] at a;exact a
  show l.length-(i+1)<l.length-i;omega
 have F:i=l.length:=by omega
 subst F;refine CW.exit ?_;refine Q (Sr λ_ t=>zm rfl (za rfl (zz (t ?_))));refine zr (zr1 rfl rfl ?_);refine ⟨_,NU.mJ a (aoq.2 ⟨oZ _,I⟩) oT oT (Nat.le_refl _),?_,c⟩;rw[val_zeros2,e.done,Nat.mul_assoc,<- Nat.pow_add,show s+32*p=k by omega]
theorem bl_W{l:List Nat}{k:Nat}(h:W l)(a:l.length<=k):bl (val l)<=32*k:=
  uJ.2 (Nat.lt_of_lt_of_le (vX h) (Nat.pow_le_pow_right oD oO))
theorem wrap_sub{a b:Int}{d:Nat}(h:(d:Int)=a-b)(c:d<18446744073709551616):IntKind.u64.wrap (IntKind.u64.wrap a-IntKind.u64.wrap b)=(d:Int):=by
  simp only[IntKind.wrap_u64]
  omega
theorem cyj(na nb:Bool)(va vb:Value)(j k:List Nat)(q p:Int)(w:World)(J:NU w va j)(hb:NU w vb k)(Z:j.length<=1000000)(Y:k.length<=1000000)(c1 : -1000000000000<=q/\q<=1000000000000)(c0 : -1000000000000<=p/\p<=1000000000000)(hz:val j≠0)(b9:p<=q)(d:Nat)(hd:(d:Int)=q-p):Ret Tryz.prog 220 [.agg [.bool na,va,.int .i64 q].toArray,.agg [.bool nb,vb,.int .i64 p].toArray] w λu w'=>u = .int .i64 (sgn (val j*2^d) (val k))/\Chg [] w w':=by
 have H:=J;have G:=hb;have b7:=J.one;have b6:=hb.one;have a:=crf w;have c4:=bl_W J.hw Z;have c3:=bl_W hb.hw Y;have b8:=bX J.hw;refine zE2 Tryz.func220 rfl ?_;refine Sr λ_ U=>?_;refine zBh rfl rfl rfl a λb2 b0 c a8 a7 B a=>?_;refine zBh rfl rfl rfl a λb3 a9 e D C A a=>?_;have I:=zdd c.lt C;have c:=c.k0 D;refine za rfl (zz (U (zc λ_ T=>Sr λ_ R=>zf rfl (zl c rfl rfl (zf rfl (zl e rfl rfl (zL rfl rfl ?_)))))));rw[decide_eq_false (show ¬q<p by omega)];refine zz (R ?_);refine CW.oX rfl ?_;refine zkk (T (Sr λ_ Q=>zf rfl (zl c rfl rfl ?_)));refine WL.ev (Ev.conv rfl rfl) rfl ?_;refine zf rfl (zl e rfl rfl ?_);refine WL.ev (Ev.conv rfl rfl) rfl ?_;refine WL.ev (Ev.sub rfl rfl) rfl ?_;rw[wrap_sub hd oO];refine za rfl (zz (Q (zc λ_ O=>?_)));refine CW.bZ 10 rfl cJ λb5 M b g=>?_;have a:=a.ta g;have c:=c.k0 g;have e:=e.k0 g;have i:=c;have h:=e;refine wh 0 rfl b (eF rfl) (wh 1 rfl b (λ_ f=>Ev.load rfl rfl ((i.q5 f).at_ rfl)) (wh 4 rfl b (eF rfl) (wh 5 rfl b (λ_ f=>Ev.load rfl rfl ((h.q5 f).at_ rfl)) ?_)));refine WH.k6 2 rfl oR hasF139 rfl rfl (a3x _ j _ (H.q5 a)) λv w1 l=>?_;obtain ⟨rfl,rfl⟩:=l;refine ⟨b,?_⟩;refine wh 3 rfl b (λ_ _=>Ev.dZ rfl rfl (iZ oO)) ?_;refine WH.k6 6 rfl oR hasF139 rfl rfl (a3x _ k _ (G.q5 a)) λv w2 l=>?_;obtain ⟨rfl,rfl⟩:=l;refine ⟨b,?_⟩;refine wh 7 rfl b (λ_ _=>Ev.dZ rfl rfl (iZ oO)) (wh 8 rfl b (eA rfl) (wh 9 rfl b (eA rfl) ?_));refine WH.done oR (M _ _ _ ?_);refine O (zc λ_ z=>CW.block ?_);refine CW.oJ 32 (decide (bl (val k)<bl (val j)+d)) ?_ ?_
 ·refine zS λ_ m=>zm rfl (zm rfl (zG rfl rfl (zm rfl ?_)));refine zb ?_ ?_<;>intro a0<;>try simp only[qs] at a0
  ·refine zv rfl (zv rfl (zv rfl (zv rfl (zv rfl (zt rfl rfl (za rfl (zz (m ?_))))))));refine ⟨rfl,rfl,q9.g7 rfl ?_ ?_⟩
   ·first|(simp;omega)|(simp_all;done)|(refine decide_eq_decide.2 ?_;omega)
   exact SMg
  refine zw rfl (zm rfl (zw rfl (zm rfl (zw rfl ?_))))
  first|refine WL.ev (Ev.iX rfl rfl oO) rfl ?_|refine WL.ev (Ev.aaq rfl rfl) rfl ?_
  refine zw rfl (zm rfl (zw rfl (zG rfl rfl (ze rfl rfl (za rfl (zz (m ?_)))))));refine ⟨rfl,rfl,q9.g7 rfl ?_ ?_⟩
  ·first|(simp;omega)|(simp_all;done)|(refine decide_eq_decide.2 ?_;omega)
  exact SMg
 refine zy rfl ?_ ?_<;>intro o<;>try simp only[qs] at o
 ·have hq:bl (val k)<bl (val j)+d:=o
  refine Sr λ_ y=>za rfl (zz (y ?_));refine zr (zr1 rfl rfl ?_);refine ⟨?_,a⟩;rw[bl_sgn.2 (by rw[adq hz];exact hq)]
 have hq : ¬bl (val k)<bl (val j)+d:=o;refine Sr λ_ x=>zm rfl (zm rfl ?_)
 first|refine WL.ev (Ev.iX rfl rfl oO) rfl ?_|refine WL.ev (Ev.aaq rfl rfl) rfl ?_
 refine zm rfl (zL rfl rfl (za rfl (zz (x ?_))));refine zy rfl ?_ ?_<;>intro F<;>try simp only[qs] at F
 ·have X:bl (val j)+d<bl (val k):=by have:=F;omega
  refine Sr λ_ t=>za rfl (zz (t ?_));refine zr (zr1 rfl rfl ?_);refine ⟨?_,a⟩;rw[bl_sgn.1 (by rw[adq hz];exact X)]
 refine zkk (z (zc λ_ s=>?_));refine CW.bZ 10 rfl cJ λa4 r b g=>?_;have a:=a.ta g;have c:=c.k0 g;have e:=e.k0 g;have i:=c;have h:=e;refine wh 0 rfl b (eF rfl) (wh 1 rfl b (λ_ f=>Ev.load rfl rfl ((i.q5 f).at_ rfl)) (wh 3 rfl b (eM rfl) (wh 4 rfl b (λ_ _=>Ev.dZ rfl rfl (tQ oO)) (wh 6 rfl b (eF rfl) (wh 7 rfl b (λ_ f=>Ev.load rfl rfl ((h.q5 f).at_ rfl)) ?_)))));refine WH.k6 2 rfl oR hasF206 rfl rfl (b8q _ j _ (H.q5 a)) λv w3 l=>?_;obtain ⟨hN,n⟩:=l;have a:=a.ta n;have b:=b.trans n;refine ⟨b,?_⟩;refine WH.k6 5 rfl oR hasF253 rfl rfl (higher_spec _ (wd (val j)) d _ _ _ hN oO oO rfl rfl) λv w4 l=>?_;obtain ⟨L,hL,V,n⟩:=l;have a:=a.ta n;have b:=b.trans n;refine ⟨b,?_⟩;refine WH.k6 8 rfl oR hasF169 rfl rfl (dwq _ _ L k _ hL (G.q5 a)) λv w5 l=>?_;obtain ⟨rfl,n⟩:=l;have a:=a.ta n;have b:=b.trans n;refine ⟨b,?_⟩;refine wh 9 rfl b (eA rfl) ?_;refine WH.done oR (r _ _ _ ?_);refine s ?_;refine zr (zr1 rfl rfl ?_);refine ⟨?_,a⟩;rw[V,g6]
theorem sizeLt_spec(G F:Bool)(D C:Value)(g f:List Nat)(e c:Int)(w:World)(M:NU w D g)(J:NU w C f)(x:g.length<=1000000)(t:f.length<=1000000)(z : -1000000000000<=e/\e<=1000000000000)(y : -1000000000000<=c/\c<=1000000000000)(T:val g≠0)(q:val f≠0)(s:e<c):Ret Tryz.prog 220 [.agg [.bool G,D,.int .i64 e].toArray,.agg [.bool F,C,.int .i64 c].toArray] w λu w'=>u = .int .i64 (btx (val g) e (val f) c)/\Chg [] w w':=by
 have B:=M;have A:=J;have X:=M.one;have V:=J.one;have a:=crf w;obtain ⟨d,Y⟩ : ∃ d:Nat,(d:Int)=c-e:=⟨(c-e).toNat,by omega⟩;refine zE2 Tryz.func220 rfl ?_;refine Sr λ_ p=>?_;refine zBh rfl rfl rfl a λb2 Q b I H i a=>?_;refine zBh rfl rfl rfl a λb3 O l k j h a=>?_;have m:=zdd b.lt j;have b:=b.k0 k;refine za rfl (zz (p (zc λ_ R=>Sr λ_ o=>zf rfl (zl b rfl rfl (zf rfl (zl l rfl rfl (zL rfl rfl ?_)))))));rw[decide_eq_true s];refine zz (o ?_);refine CW.nZ rfl ?_;refine Sr λ_ n=>zg l rfl (zg b rfl ?_);refine WL.call hasF220 rfl rfl (cyj F G _ _ f g c e _ (A.q5 a) (B.q5 a) t x y z q oO d Y) λv w1 h'=>?_;obtain ⟨rfl,Z⟩:=h';have r:=sgn_swap (val f*2^d) (val g);have U : -1<=sgn (val f*2^d) (val g)/\sgn (val f*2^d) (val g)<=1:=by unfold sgn;split<;>(try split)<;>omega
 have a:=a.ta Z;refine WL.ev (Ev.bnq rfl oO) rfl ?_;refine za rfl (zz (n ?_));refine zr (zr1 rfl rfl ?_);refine ⟨?_,a⟩;rw[r];unfold btx;rw[show (e-min e c).toNat=0 by omega,show (c-min e c).toNat=d by omega,Nat.pow_zero,Nat.mul_one]
theorem dsize_spec(o n:Bool)(m l:Value)(e c:List Nat)(b a:Int)(w:World)(r:NU w m e)(q:NU w l c)(i:e.length<=1000000)(g:c.length<=1000000)(k : -1000000000000<=b/\b<=1000000000000)(j : -1000000000000<=a/\a<=1000000000000)(f:val e≠0)(p:val c≠0):Ret Tryz.prog 220 [.agg [.bool o,m,.int .i64 b].toArray,.agg [.bool n,l,.int .i64 a].toArray] w λu w'=>u = .int .i64 (btx (val e) b (val c) a)/\Chg [] w w':=by
  by_cases h:b<a
  · exact sizeLt_spec o n m l e c b a w r q i g k j f p h
  obtain ⟨d,s⟩ : ∃ d:Nat,(d:Int)=b-a:=⟨(b-a).toNat,by omega⟩;refine (cyj o n m l e c b a w r q i g k j f oO d s).mono λu w' ⟨v,t⟩=>⟨?_,t⟩;rw[v];unfold btx;rw[show (b-min b a).toNat=d by omega,show (a-min b a).toNat=0 by omega,Nat.pow_zero,Nat.mul_one]
theorem d3x(neg:Bool)(n:Nat): -1<=sgD neg n/\sgD neg n<=1:=by unfold sgD;split<;>(try split)<;>omega
theorem cmpV_range(m:Nat)(e:Int)(n:Nat)(f:Int): -1<=btx m e n f/\btx m e n f<=1:=by unfold btx sgn;split<;>(try split)<;>omega
theorem mul_small{a b:Int}(d : -1<=a/\a<=1)(c : -1<=b/\b<=1): -9223372036854775808<=a*b/\a*b<=9223372036854775807:=by
  rcases (by omega:a = -1\/a=0\/a=1) with rfl|rfl|rfl<;>rcases (by omega:b = -1\/b=0\/b=1) with rfl|rfl|rfl<;>decide
theorem d9x(f h:Bool)(va vb:Value)(d e:List Nat)(x t:Int)(w:World)(ha:NU w va d)(hb:NU w vb e)(a3:d.length<=1000000)(a2:e.length<=1000000)(a5 : -1000000000000<=x/\x<=1000000000000)(a4 : -1000000000000<=t/\t<=1000000000000):Ret Tryz.prog 150 [.agg [.bool f,va,.int .i64 x].toArray,.agg [.bool h,vb,.int .i64 t].toArray] w λu w'=>u = .int .i64 (bpx f (val d) x h (val e) t)/\Chg [] w w':=by
 have M:=ha;have J:=hb;have c0:=ha.one;have b9:=hb.one;have a:=crf w;have a1:=d3x f (val d);have b8:=d3x h (val e);refine zE2 Tryz.func150 rfl ?_;refine Sr λ_ Y=>?_;refine zBh rfl rfl rfl a λb2 b6 b b0 a9 G a=>?_;refine zBh rfl rfl rfl a λb3 b5 c I H F a=>?_;have Q:=zdd b.lt H;have b:=b.k0 I;refine za rfl (zz (Y (zc λ_ X=>?_)));refine CW.bZ 6 rfl cJ λb7 R i m=>?_;have a:=a.ta m;have b:=b.k0 m;have c:=c.k0 m;have s:=b;have r:=c;refine wh 0 rfl i (λ_ l=>Ev.oQ rfl rfl (s.q5 l) rfl) (wh 2 rfl i (λ_ l=>Ev.oQ rfl rfl (r.q5 l) rfl) ?_);refine WH.k6 1 rfl oR hasF74 rfl rfl (ajj f _ d x _ (M.q5 a)) λv w1 O=>?_;obtain ⟨rfl,g⟩:=O;have a:=a.ta g;have b:=b.k0 g;have c:=c.k0 g;have i:=i.trans g;refine ⟨i,?_⟩;refine WH.k6 3 rfl oR hasF74 rfl rfl (ajj h _ e t _ (J.q5 a)) λv w2 O=>?_;obtain ⟨rfl,g⟩:=O;have a:=a.ta g;have b:=b.k0 g;have c:=c.k0 g;have i:=i.trans g;refine ⟨i,?_⟩;refine wh 4 rfl i (eA rfl) (wh 5 rfl i (eA rfl) ?_);refine WH.done oR (R _ _ _ ?_);refine X (zc λ_ V=>CW.block (Sr λ_ U=>zm rfl (zm rfl (zL rfl rfl (za rfl (zz (U ?_)))))));refine zy rfl ?_ ?_<;>intro p<;>try simp only[qs] at p
 ·have D:(sgD f (val d))<(sgD h (val e)):=p
  refine Sr λ_ T=>za rfl (zz (T ?_));refine zr (zr1 rfl rfl ?_);refine ⟨?_,a⟩;unfold bpx;rw[if_pos D]
 have D : ¬(sgD f (val d))<(sgD h (val e)):=by have:=p;omega
 refine Sr λ_ C=>zm rfl (zm rfl (zG rfl rfl (za rfl (zz (C ?_)))));refine zy rfl ?_ ?_<;>intro o<;>try simp only[qs] at o
 ·have k:(sgD h (val e))<(sgD f (val d)):=o
  refine Sr λ_ B=>za rfl (zz (B ?_));refine zr (zr1 rfl rfl ?_);refine ⟨?_,a⟩;unfold bpx;rw[if_neg D,if_pos k]
 have k : ¬(sgD h (val e))<(sgD f (val d)):=by have:=o;omega
 refine Sr λ_ A=>zm rfl (zq rfl rfl (za rfl (zz (A ?_))));refine zy rfl ?_ ?_<;>intro n<;>try simp only[qs] at n
 ·have j:(sgD f (val d))=0:=n
  refine Sr λ_ z=>za rfl (zz (z ?_));refine zr (zr1 rfl rfl ?_);refine ⟨?_,a⟩;unfold bpx;rw[if_neg D,if_neg k,if_pos j]
 have j : ¬(sgD f (val d))=0:=n;have a0:val d≠0:=λq=>j (a7j.2 q);have Z:val e≠0:=λq=>by have:=a7j (neg:=h).2 q;omega
 refine zkk (V (Sr λ_ y=>zm rfl (zg b rfl (zg c rfl ?_))));refine WL.call hasF220 rfl rfl (dsize_spec f h _ _ d e x t _ (M.q5 a) (J.q5 a) a3 a2 a5 a4 a0 Z) λv w3 O=>?_;obtain ⟨rfl,g⟩:=O;have a6:=cmpV_range (val d) x (val e) t;have a:=a.ta g;refine WL.ev (Ev.czj rfl rfl (mul_small a1 a6)) rfl ?_;refine za rfl (zz (y ?_));refine zr (zr1 rfl rfl ?_);refine ⟨?_,a⟩;unfold bpx;rw[if_neg D,if_neg k,if_neg j]
structure Sh where
  s:SP
  V:Dy
  Q:Dy
  lo:Nat
  hi:Nat
def Sh.zero:Sh:=⟨SP.zero,Dy.zero,Dy.zero,0,0⟩
def ShM(T:TypeId)(w:World)(b:Nat)(S:Sh):Prop:=∃ rv rq,BK w b T [.int .i64 (S.s.na:Int),.int .i64 (S.s.up:Int),.int .i64 (S.s.dn:Int),.int .i64 (S.s.mi:Int),.int .i64 (S.s.pl:Int),.int .i64 (S.s.al:Int),.bool S.V.neg,rv,.int .i64 S.V.e,.bool S.Q.neg,rq,.int .i64 S.Q.e,.float .f64 S.lo,.float .f64 S.hi]/\NU w rv (wd S.V.m)/\NU w rq (wd S.Q.m)
structure Sh.wf(S:Sh):Prop where
  s:S.s.le 1099511627776
  V:S.V.ok
  Q:S.Q.ok
  lo:S.lo<18446744073709551616
  hi:S.hi<18446744073709551616
def Sh.some(S:Sh):Prop:=S.s.na<S.s.al
instance (S:Sh):Decidable S.some:=by unfold Sh.some;exact inferInstance
def SP.add(s t:SP):SP:=⟨s.na+t.na,s.up+t.up,s.dn+t.dn,s.mi+t.mi,s.pl+t.pl,s.al+t.al⟩
def Sh.merge(S U:Sh):Sh:=
  ⟨S.s.add U.s,(xX S.V U.V).getD Dy.zero,(xX S.Q U.Q).getD Dy.zero,if U.some/\(¬S.some\/key U.lo<key S.lo) then U.lo else S.lo,if U.some/\(¬S.some\/key S.hi<key U.hi) then U.hi else S.hi⟩
theorem Sh.wf.zero:Sh.zero.wf:=⟨by unfold SP.le;decide,iJ (neg:=false) (n:=0) (e:=0) rfl,iJ (neg:=false) (n:=0) (e:=0) rfl,by decide,by decide⟩
theorem addD_ok{x y d:Dy}(b:x.ok)(a:y.ok)(h:xX x y = .some d):d.ok:=by
  unfold xX at h
  split at h
  · cases h;exact a
  split at h
  · cases h;exact b
  split at h
  · cases h
  split at h
  · exact iJ h
  split at h
  · exact iJ h
  · exact iJ h
theorem b4j:Dy.zero.ok:=iJ (neg:=false) (n:=0) (e:=0) rfl
theorem tX{x:Option Dy}(h : ∀ d,x = .some d->d.ok):(x.getD Dy.zero).ok:=by
  cases hx:x with
  | none=>exact b4j
  | some d=>exact h d hx
theorem notU14{S:Sh}{w:World}{a b:Value}(g:NU w a (wd S.V.m))(f:NU w b (wd S.Q.m)): ∀ c∈[.int .i64 (S.s.na:Int),.int .i64 (S.s.up:Int),.int .i64 (S.s.dn:Int),.int .i64 (S.s.mi:Int),.int .i64 (S.s.pl:Int),.int .i64 (S.s.al:Int),.bool S.V.neg,a,.int .i64 S.V.e,.bool S.Q.neg,b,.int .i64 S.Q.e,.float .f64 S.lo,.float .f64 S.hi],abq c=false:=by
  intro v d
  simp only[List.mem_cons,List.not_mem_nil,or_false] at d
  rcases d with rfl|rfl|rfl|rfl|rfl|rfl|rfl|rfl|rfl|rfl|rfl|rfl|rfl|rfl<;>first|rfl|exact g.notU|exact f.notU
theorem ShM.q5{T:TypeId}{w w':World}{b:Nat}{S:Sh}(h:ShM T w b S)(a:Chg [] w w'):ShM T w' b S:=by
  obtain ⟨c,d,e,g,f⟩:=h
  exact ⟨c,d,e.q5 a,g.q5 a,f.q5 a⟩
theorem ShM.lt{T:TypeId}{w:World}{b:Nat}{S:Sh}(h:ShM T w b S):b<w.heap.size:=by
  obtain ⟨c,d,a,_⟩:=h
  exact a.lt
theorem ShM.other{T T':TypeId}{w w':World}{b c:Nat}{S U:Sh}(h:ShM T w b S)(k:ShM T' w c U)(e:Chg [c] w w')(d:b≠c):ShM T w' b S:=by
  obtain ⟨i,j,l,n,m⟩:=h
  obtain ⟨o,p,a,g,f⟩:=k
  exact ⟨i,j,l.gZ e (by simpa using d),n.q8 a e (notU14 g f),m.q8 a e (notU14 g f)⟩
theorem arq(b:Nat)(S:Sh)(w:World)(p:ShM 91 w b S)(h:S.s.le 1099511627776):Ret Tryz.prog 47 [.pointer (some ⟨b,0,none⟩)] w λu w'=>u = .bool (decide S.some)/\Chg [] w w':=by
 obtain ⟨t,v,d,q,r⟩:=p;obtain ⟨o,n,m,l,k,j⟩:=h;have a:=crf w;refine zE1 Tryz.func47 rfl ?_;refine Sr λ_ g=>za rfl (zz (g (zc λ_ f=>?_)));refine CW.jQ cJ oR λi e c=>?_;have a:=a.ta c;have d:=d.q5 c;refine ym rfl (yP rfl (yf rfl (yf rfl ?_)));refine WS.ev (Ev.load rfl rfl (d.at_ rfl)) rfl ?_;refine ym rfl (yP rfl (yf rfl (yf rfl ?_)));refine WS.ev (Ev.load rfl rfl (d.at_ rfl)) rfl ?_;refine WS.ev (Ev.gtr rfl rfl) rfl ?_;refine ya rfl ?_;refine WS.nil (e _ _ ?_);refine f ?_;refine zr (zr1 rfl rfl ?_);refine ⟨congrArg Value.bool (decide_eq_decide.2 ?_),a⟩;unfold Sh.some;omega
theorem Count_spec_(b:Nat)(S:Sh)(w:World)(m:ShM 91 w b S)(d:S.s.le 1099511627776):Ret Tryz.prog 43 [.pointer (some ⟨b,0,none⟩)] w λu w'=>u = .int .i64 (S.s.al:Int)/\Chg [] w w':=by
 obtain ⟨p,q,l,n,o⟩:=m;obtain ⟨k,j,i,h,g,f⟩:=d;have e:=crf w;refine zE1 Tryz.func43 rfl ?_;refine Sr λ_ c=>za rfl (zz (c (Sr λ_ a=>zm rfl (zP rfl (zf rfl (zf rfl (zl l rfl rfl (za rfl (zz (a ?_))))))))));refine zr (zr1 rfl rfl ?_);exact ⟨rfl,e⟩
def Sh.fin(S:Sh):Int:=(S.s.al:Int)-S.s.na-S.s.up-S.s.dn
def Sh.pln(S:Sh):Int:=S.fin-S.s.mi-S.s.pl
theorem ajq(b:Nat)(S:Sh)(w:World)(p:ShM 91 w b S)(h:S.s.le 1099511627776):Ret Tryz.prog 78 [.pointer (some ⟨b,0,none⟩)] w λu w'=>u = .int .i64 S.fin/\Chg [] w w':=by
 obtain ⟨t,v,c,q,r⟩:=p;obtain ⟨o,n,m,l,k,j⟩:=h;have a:=crf w;refine zE1 Tryz.func78 rfl ?_;refine Sr λ_ g=>za rfl (zz (g (zc λ_ f=>?_)));refine CW.jQ cJ oR λi e d=>?_;have a:=a.ta d;have c:=c.q5 d;refine ym rfl (yP rfl (yf rfl (yf rfl ?_)));refine WS.ev (Ev.load rfl rfl (c.at_ rfl)) rfl ?_;refine ym rfl (yP rfl (yf rfl (yf rfl ?_)));refine WS.ev (Ev.load rfl rfl (c.at_ rfl)) rfl ?_;refine WS.ev (Ev.dX rfl rfl oO) rfl ?_;refine ym rfl (yP rfl (yf rfl (yf rfl ?_)));refine WS.ev (Ev.load rfl rfl (c.at_ rfl)) rfl ?_;refine WS.ev (Ev.dX rfl rfl oO) rfl ?_;refine ym rfl (yP rfl (yf rfl (yf rfl ?_)));refine WS.ev (Ev.load rfl rfl (c.at_ rfl)) rfl ?_;refine WS.ev (Ev.dX rfl rfl oO) rfl ?_;refine ya rfl ?_;refine WS.nil (e _ _ ?_);refine f ?_;refine zr (zr1 rfl rfl ?_);exact ⟨rfl,a⟩
theorem dkq(b:Nat)(S:Sh)(w:World)(a:ShM 91 w b S)(t:S.s.le 1099511627776):Ret Tryz.prog 149 [.pointer (some ⟨b,0,none⟩)] w λu w'=>u = .int .i64 S.pln/\Chg [] w w':=by
 obtain ⟨y,z,i,g,h⟩:=a;obtain ⟨r,q,p,o,n,m⟩:=t;have c:=crf w;refine zE1 Tryz.func149 rfl ?_;refine Sr λ_ l=>za rfl (zz (l (zc λ_ k=>?_)));refine CW.bZ 15 rfl cJ λA j a d=>?_;have c:=c.ta d;have i:=i.q5 d;have g:=g.q5 d;have h:=h.q5 d;have e:=i;refine wh 0 rfl a (eM rfl) (wh 2 rfl a (eM rfl) (wh 3 rfl a (eP rfl) (wh 4 rfl a (eF rfl) (wh 5 rfl a (eF rfl) (wh 6 rfl a (λ_ f=>Ev.load rfl rfl ((e.q5 f).at_ rfl)) (wh 8 rfl a (eM rfl) (wh 9 rfl a (eP rfl) (wh 10 rfl a (eF rfl) (wh 11 rfl a (eF rfl) (wh 12 rfl a (λ_ f=>Ev.load rfl rfl ((e.q5 f).at_ rfl)) ?_))))))))));refine WH.k6 1 rfl oR hasF78 rfl rfl (ajq b S _ ⟨y,z,i,g,h⟩ ⟨r,q,p,o,n,m⟩) λv C B=>?_;obtain ⟨rfl,x⟩:=B;unfold Sh.fin;have c:=c.ta x;have a:=a.trans x;refine ⟨a,?_⟩;refine wh 7 rfl a (λ_ _=>Ev.dX rfl rfl oO) (wh 13 rfl a (λ_ _=>Ev.dX rfl rfl oO) (wh 14 rfl a (eA rfl) ?_));refine WH.done oR (j _ _ _ ?_);refine k ?_;refine zr (zr1 rfl rfl ?_);exact ⟨rfl,c⟩
theorem dcx(w:World):Ret Tryz.prog 21 [] w λu w'=>(∃ b,u = .pointer (some ⟨b,0,none⟩)/\ShM 91 w' b Sh.zero/\w.heap.size<=b)/\Chg [] w w':=by
 have a:=crf w;refine zE0 Tryz.func21 rfl ?_;refine Sr λ_ e=>za rfl (zz (e (Sr λ_ d=>?_)));refine WL.ev (Ev.build (vs:=_) (cs:=[_,_,_,_,_,_,_,_,_,_,_,_,_,_]) rfl rfl) rfl ?_;refine zBh rfl rfl rfl a λj i f h g c a=>?_;refine za rfl (zz (d ?_));refine zr (zr1 rfl rfl ?_);refine ⟨⟨j,rfl,⟨_,_,f,?_,?_⟩,by omega⟩,a⟩
 · rw[show Sh.zero.V.m=0 from rfl,eJ];exact NU.nil
 rw[show Sh.zero.Q.m=0 from rfl,eJ];exact NU.nil
theorem jX{f:Dy->Dy->Option Dy}{x y:Dy}(b:x.ok)(a:y.ok):bgj f (cQ x.neg (val (wd x.m)) x.e) (cQ y.neg (val (wd y.m)) y.e)=f x y:=by
  rw[g6,g6,mX b,mX a];rfl
theorem DR.cells{w:World}{u:Value}{x:Option Dy}(h:DR w u x): ∃ r k,u = .tuple [.agg [.bool (x.getD Dy.zero).neg,r,.int .i64 (x.getD Dy.zero).e].toArray,.int .i64 k].toArray/\NU w r (wd (x.getD Dy.zero).m):=by
  rcases h with ⟨r,d,rfl,rfl,a⟩|⟨rfl,rfl⟩
  · exact ⟨r,0,rfl,a⟩
  · exact ⟨_,2,rfl,by rw[show (Option.none.getD Dy.zero).m=0 from rfl,eJ];exact NU.nil⟩
theorem boj{a b:Int}: c2q a b<0↔a<b:=by
  unfold c2q;split
  · omega
  · split<;>omega
theorem afx{a b:Int}: 0<c2q a b↔b<a:=by
  unfold c2q;split
  · omega
  · split<;>omega
theorem GW.keepI{w w':World}{b:Nat}{T:TypeId}{x:Int}{l:List Value}(a:GW w)(d:BK w b T (.int .i64 x::l))(c:Chg [b] w w'):GW w':=λi hi=>by
  refine c.cell (a i hi) λhm=>?_
  have hm2 : 6 = b:=by simpa using hm
  have h0:=a 0 oD
  rw[hm2,d.at_ (i:=0) rfl] at h0
  cases h0
theorem aJ{d:Dy}(h:d.ok): -9223372036854775808<=d.e/\d.e<=9223372036854775807:=by have:=h.e;omega
theorem shMerge_spec(b c:Nat)(S U:Sh)(w:World)(d:ShM 91 w b S)(e5:S.wf)(hU:ShM 91 w c U)(g9:U.wf)(m8:b≠c)(hg:GW w):Ret Tryz.prog 31 [.pointer (some ⟨b,0,none⟩),.pointer (some ⟨c,0,none⟩)] w λu w'=>(1099511627776<S.s.al+U.s.al/\u = .int .i64 2/\ShM 91 w' b S/\Chg [b] w w')\/(S.s.al+U.s.al<=1099511627776/\u = .int .i64 0/\ShM 91 w' b (S.merge U)/\Chg [b] w w'):=by
 obtain ⟨rv,rq,i,j,h⟩:=d;have f6:=i;have k2:=e5;obtain ⟨⟨f2,f1,f0,e9,e8,e7⟩,a9,b0,k4,l0⟩:=e5;obtain ⟨sv,sq,f,n,k⟩:=hU;obtain ⟨⟨h5,h4,h3,h2,h1,h0⟩,a4,a5,k3,k5⟩:=g9;have g:Chg [b] w w:=Chg.refl _ _;refine zE2 Tryz.func31 rfl ?_;refine Sr λ_ g5=>za rfl (zz (g5 (zc λ_ g4=>zc λ_ g3=>?_)));refine CW.jQ cJ oR λm7 g0 a=>?_;have g:=g.ta a;have i:=i.q5 a;have f:=f.q5 a;have j:=j.q5 a;have h:=h.q5 a;have n:=n.q5 a;have k:=k.q5 a;refine ym rfl (yP rfl (yf rfl (yf rfl ?_)));refine WS.ev (Ev.load rfl rfl (i.at_ rfl)) rfl ?_;refine ym rfl (yP rfl (yf rfl (yf rfl ?_)));refine WS.ev (Ev.load rfl rfl (f.at_ rfl)) rfl ?_;refine WS.ev (Ev.jZ rfl rfl oO) rfl ?_;refine WS.ev (Ev.gtr rfl rfl) rfl ?_;refine WS.nil (g0 _ _ ?_);refine g3 ?_;refine zy rfl ?_ ?_<;>intro b8<;>try simp only[qs] at b8
 ·have f5:1099511627776<S.s.al+U.s.al:=by have:=b8;omega
  refine Sr λ_ g2=>za rfl (zz (g2 ?_));refine zr (zr1 rfl rfl ?_);exact .inl ⟨f5,rfl,⟨_,_,i,j,h⟩,g⟩
 have e6:S.s.al+U.s.al<=1099511627776:=by have:=b8;omega
 refine zkk (g4 ?_);refine CW.anx (λD s' w'=>D=[]/\∃ B b3:Nat,B=(if U.some/\(¬S.some\/key U.lo<key S.lo) then U.lo else S.lo)/\b3=(if U.some/\(¬S.some\/key S.hi<key U.hi) then U.hi else S.hi)/\BK w' b 91 [.int .i64 (S.s.na:Int),.int .i64 (S.s.up:Int),.int .i64 (S.s.dn:Int),.int .i64 (S.s.mi:Int),.int .i64 (S.s.pl:Int),.int .i64 (S.s.al:Int),.bool S.V.neg,rv,.int .i64 S.V.e,.bool S.Q.neg,rq,.int .i64 S.Q.e,.float .f64 B,.float .f64 b3]/\NU w' rv (wd S.V.m)/\NU w' rq (wd S.Q.m)/\BK w' c 91 [.int .i64 (U.s.na:Int),.int .i64 (U.s.up:Int),.int .i64 (U.s.dn:Int),.int .i64 (U.s.mi:Int),.int .i64 (U.s.pl:Int),.int .i64 (U.s.al:Int),.bool U.V.neg,sv,.int .i64 U.V.e,.bool U.Q.neg,sq,.int .i64 U.Q.e,.float .f64 U.lo,.float .f64 U.hi]/\NU w' sv (wd U.V.m)/\NU w' sq (wd U.Q.m)/\Chg [b] w w'/\q9 [(0,.pointer (some ⟨b,0,none⟩)),(1,.pointer (some ⟨c,0,none⟩))] s') ?_ ?_
 ·refine Sr λ_ g1=>zm rfl ?_;refine WL.call hasF47 rfl rfl (arq c U _ ⟨sv,sq,f,n,k⟩ ⟨h5,h4,h3,h2,h1,h0⟩) λv w1 h'=>?_;obtain ⟨rfl,C⟩:=h';have g:=g.ta C;have i:=i.q5 C;have f:=f.q5 C;have j:=j.q5 C;have h:=h.q5 C;have n:=n.q5 C;have k:=k.q5 C;refine zz (g1 ?_);refine zy rfl ?_ ?_<;>intro b7<;>try simp only[qs] at b7
  ·have F:U.some:=by simpa using b7
   refine CW.anx (λD s' w'=>D=[]/\∃ B:Nat,B=(if U.some/\(¬S.some\/key U.lo<key S.lo) then U.lo else S.lo)/\BK w' b 91 [.int .i64 (S.s.na:Int),.int .i64 (S.s.up:Int),.int .i64 (S.s.dn:Int),.int .i64 (S.s.mi:Int),.int .i64 (S.s.pl:Int),.int .i64 (S.s.al:Int),.bool S.V.neg,rv,.int .i64 S.V.e,.bool S.Q.neg,rq,.int .i64 S.Q.e,.float .f64 B,.float .f64 S.hi]/\NU w' rv (wd S.V.m)/\NU w' rq (wd S.Q.m)/\BK w' c 91 [.int .i64 (U.s.na:Int),.int .i64 (U.s.up:Int),.int .i64 (U.s.dn:Int),.int .i64 (U.s.mi:Int),.int .i64 (U.s.pl:Int),.int .i64 (U.s.al:Int),.bool U.V.neg,sv,.int .i64 U.V.e,.bool U.Q.neg,sq,.int .i64 U.Q.e,.float .f64 U.lo,.float .f64 U.hi]/\NU w' sv (wd U.V.m)/\NU w' sq (wd U.Q.m)/\Chg [b] w w'/\q9 [(0,.pointer (some ⟨b,0,none⟩)),(1,.pointer (some ⟨c,0,none⟩))] s') ?_ ?_
   ·refine CW.axj 34 (decide (¬S.some\/key U.lo<key S.lo)) ?_ ?_
    ·intro r;refine CW.bZ 15 rfl cJ λk1 a8 d a=>?_;have r:=r.ta a;have i:=i.q5 a;have f:=f.q5 a;have j:=j.q5 a;have h:=h.q5 a;have t:=i;have y:=f;refine wh 0 rfl d (eM rfl) ?_;refine WH.k6 1 rfl oR hasF47 rfl rfl (arq b S _ ⟨rv,rq,i,j,h⟩ ⟨f2,f1,f0,e9,e8,e7⟩) λv w2 h'=>?_;obtain ⟨rfl,C⟩:=h';have r:=r.ta C;have d:=d.trans C;refine ⟨d,?_⟩
     by_cases hsm:S.some
     ·rw[show decide (Sh.some S)=true from decide_eq_true hsm];refine wh 2 rfl d (λ_ _=>Ev.not rfl) (wh 3 rfl d (eM rfl) (wg 4 rfl rfl rfl rfl rfl d (eM rfl) (wg 5 rfl rfl rfl rfl rfl d (eP rfl) (wg 6 rfl rfl rfl rfl rfl d (eF rfl) (wg 7 rfl rfl rfl rfl rfl d (λ_ o=>Ev.load rfl rfl ((y.q5 o).at_ rfl)) (wg 8 rfl rfl rfl rfl rfl d (eM rfl) (wg 9 rfl rfl rfl rfl rfl d (eP rfl) (wg 10 rfl rfl rfl rfl rfl d (eF rfl) (wg 11 rfl rfl rfl rfl rfl d (λ_ o=>Ev.load rfl rfl ((t.q5 o).at_ rfl)) ?_)))))))));refine WH.rX 12 rfl oR rfl rfl rfl rfl hasF97 rfl rfl (afj U.lo S.lo oO oO _) λv w3 h'=>?_;obtain ⟨rfl,rfl⟩:=h';refine ⟨d,?_⟩;refine wg 13 rfl rfl rfl rfl rfl d (λ_ _=>Ev.lss rfl rfl) (wh 14 rfl d (λ_ _=>Ev.anq rfl rfl rfl) ?_);refine WH.done oR (a8 _ _ _ ?_);refine ⟨rfl,r,q9.g7 rfl ?_ ?_⟩
      ·first|exact (decide_eq_true (.inl hsm)).symm|exact decide_eq_decide.2 (by rw[boj];exact ⟨.inr,λq=>q.resolve_left (λz=>z hsm)⟩)
      exact SMg
     rw[show decide (Sh.some S)=false from decide_eq_false hsm];refine wh 2 rfl d (λ_ _=>Ev.not rfl) (wh 3 rfl d (eM rfl) (wp 4 rfl rfl rfl rfl rfl d (wp 5 rfl rfl rfl rfl rfl d (wp 6 rfl rfl rfl rfl rfl d (wp 7 rfl rfl rfl rfl rfl d (wp 8 rfl rfl rfl rfl rfl d (wp 9 rfl rfl rfl rfl rfl d (wp 10 rfl rfl rfl rfl rfl d (wp 11 rfl rfl rfl rfl rfl d ?_)))))))));refine WH.ayj 12 rfl oR rfl rfl rfl rfl d rfl ?_;refine wp 13 rfl rfl rfl rfl rfl d (wh 14 rfl d (λ_ _=>Ev.aex rfl rfl rfl) ?_);refine WH.done oR (a8 _ _ _ ?_);refine ⟨rfl,r,q9.g7 rfl ?_ ?_⟩
     ·first|exact (decide_eq_true (.inl hsm)).symm|exact decide_eq_decide.2 (by rw[boj];exact ⟨.inr,λq=>q.resolve_left (λz=>z hsm)⟩)
     exact SMg
    intro wM r;have g:=g.ta r;have i:=i.q5 r;have f:=f.q5 r;have j:=j.q5 r;have h:=h.q5 r;have n:=n.q5 r;have k:=k.q5 r;refine zy rfl ?_ ?_<;>intro b6<;>try simp only[qs] at b6
    ·have hq : ¬S.some\/key U.lo<key S.lo:=by simpa using b6
     refine zS λ_ d4=>zm rfl (zm rfl (zP rfl (zf rfl (zl f rfl rfl (zP rfl (zf rfl ?_))))));refine WL.bJ rfl rfl o1 i oS rfl λm1 x Z=>?_;(try simp only[qt] at x);have g:=g.s1 Z;have f:=f.kq Z;have j:=j.q8 i Z an;have h:=h.q8 i Z an;have n:=n.q8 i Z an;have k:=k.q8 i Z an;have i:=x;refine zz (d4 ?_);exact ⟨rfl,U.lo,(if_pos ⟨F,hq⟩).symm,i,j,h,f,n,k,g,(by first|((repeat (first|exact q9.refl|refine q9.nJ (by rfl) ?_));done)|((repeat (first|exact q9.nil|refine q9.cons rfl ?_));done))⟩
    have hq : ¬(¬S.some\/key U.lo<key S.lo):=by simpa using b6
    refine zkk ?_;exact ⟨rfl,S.lo,(if_neg (λq=>hq q.2)).symm,i,j,h,f,n,k,g,(by first|((repeat (first|exact q9.refl|refine q9.nJ (by rfl) ?_));done)|((repeat (first|exact q9.nil|refine q9.cons rfl ?_));done))⟩
   rintro _ s' wJ ⟨rfl,B,a6,i,j,h,f,n,k,g,a3⟩;refine CW.sub a3 ?_;refine CW.axj 56 (decide (¬S.some\/key S.hi<key U.hi)) ?_ ?_
   ·intro r;refine CW.bZ 15 rfl cJ λi9 a7 d a=>?_;have r:=r.ta a;have i:=i.q5 a;have f:=f.q5 a;have j:=j.q5 a;have h:=h.q5 a;have t:=i;have y:=f;refine wh 0 rfl d (eM rfl) ?_;refine WH.k6 1 rfl oR hasF47 rfl rfl (arq b ⟨S.s,S.V,S.Q,B,S.hi⟩ _ ⟨rv,rq,i,j,h⟩ ⟨f2,f1,f0,e9,e8,e7⟩) λv w4 h'=>?_;obtain ⟨rfl,C⟩:=h';have r:=r.ta C;have d:=d.trans C;refine ⟨d,?_⟩
    by_cases hsm:S.some
    ·rw[show decide (Sh.some ⟨S.s,S.V,S.Q,B,S.hi⟩)=true from decide_eq_true hsm];refine wh 2 rfl d (λ_ _=>Ev.not rfl) (wh 3 rfl d (eM rfl) (wg 4 rfl rfl rfl rfl rfl d (eM rfl) (wg 5 rfl rfl rfl rfl rfl d (eP rfl) (wg 6 rfl rfl rfl rfl rfl d (eF rfl) (wg 7 rfl rfl rfl rfl rfl d (λ_ o=>Ev.load rfl rfl ((y.q5 o).at_ rfl)) (wg 8 rfl rfl rfl rfl rfl d (eM rfl) (wg 9 rfl rfl rfl rfl rfl d (eP rfl) (wg 10 rfl rfl rfl rfl rfl d (eF rfl) (wg 11 rfl rfl rfl rfl rfl d (λ_ o=>Ev.load rfl rfl ((t.q5 o).at_ rfl)) ?_)))))))));refine WH.rX 12 rfl oR rfl rfl rfl rfl hasF97 rfl rfl (afj U.hi S.hi oO oO _) λv w5 h'=>?_;obtain ⟨rfl,rfl⟩:=h';refine ⟨d,?_⟩;refine wg 13 rfl rfl rfl rfl rfl d (λ_ _=>Ev.gtr rfl rfl) (wh 14 rfl d (λ_ _=>Ev.anq rfl rfl rfl) ?_);refine WH.done oR (a7 _ _ _ ?_);refine ⟨rfl,r,q9.g7 rfl ?_ ?_⟩
     ·first|exact (decide_eq_true (.inl hsm)).symm|exact decide_eq_decide.2 (by rw[afx];exact ⟨.inr,λq=>q.resolve_left (λz=>z hsm)⟩)
     exact SMg
    rw[show decide (Sh.some ⟨S.s,S.V,S.Q,B,S.hi⟩)=false from decide_eq_false hsm];refine wh 2 rfl d (λ_ _=>Ev.not rfl) (wh 3 rfl d (eM rfl) (wp 4 rfl rfl rfl rfl rfl d (wp 5 rfl rfl rfl rfl rfl d (wp 6 rfl rfl rfl rfl rfl d (wp 7 rfl rfl rfl rfl rfl d (wp 8 rfl rfl rfl rfl rfl d (wp 9 rfl rfl rfl rfl rfl d (wp 10 rfl rfl rfl rfl rfl d (wp 11 rfl rfl rfl rfl rfl d ?_)))))))));refine WH.ayj 12 rfl oR rfl rfl rfl rfl d rfl ?_;refine wp 13 rfl rfl rfl rfl rfl d (wh 14 rfl d (λ_ _=>Ev.aex rfl rfl rfl) ?_);refine WH.done oR (a7 _ _ _ ?_);refine ⟨rfl,r,q9.g7 rfl ?_ ?_⟩
    ·first|exact (decide_eq_true (.inl hsm)).symm|exact decide_eq_decide.2 (by rw[afx];exact ⟨.inr,λq=>q.resolve_left (λz=>z hsm)⟩)
    exact SMg
   intro wM r;have g:=g.ta r;have i:=i.q5 r;have f:=f.q5 r;have j:=j.q5 r;have h:=h.q5 r;have n:=n.q5 r;have k:=k.q5 r;refine zy rfl ?_ ?_<;>intro b4<;>try simp only[qs] at b4
   ·have hq : ¬S.some\/key S.hi<key U.hi:=by simpa using b4
    refine zS λ_ d3=>zm rfl (zm rfl (zP rfl (zf rfl (zl f rfl rfl (zP rfl (zf rfl ?_))))));refine WL.bJ rfl rfl o1 i oS rfl λm0 x Y=>?_;(try simp only[qt] at x);have g:=g.s1 Y;have f:=f.kq Y;have j:=j.q8 i Y an;have h:=h.q8 i Y an;have n:=n.q8 i Y an;have k:=k.q8 i Y an;have i:=x;refine zz (d3 ?_);exact ⟨rfl,B,U.hi,a6,(if_pos ⟨F,hq⟩).symm,i,j,h,f,n,k,g,(by first|((repeat (first|exact q9.refl|refine q9.nJ (by rfl) ?_));done)|((repeat (first|exact q9.nil|refine q9.cons rfl ?_));done))⟩
   have hq : ¬(¬S.some\/key S.hi<key U.hi):=by simpa using b4
   refine zkk ?_;exact ⟨rfl,B,S.hi,a6,(if_neg (λq=>hq q.2)).symm,i,j,h,f,n,k,g,(by first|((repeat (first|exact q9.refl|refine q9.nJ (by rfl) ?_));done)|((repeat (first|exact q9.nil|refine q9.cons rfl ?_));done))⟩
  have F : ¬U.some:=by simpa using b7
  refine zkk ?_;exact ⟨rfl,S.lo,S.hi,(if_neg (λq=>F q.1)).symm,(if_neg (λq=>F q.1)).symm,i,j,h,f,n,k,g,(by first|((repeat (first|exact q9.refl|refine q9.nJ (by rfl) ?_));done)|((repeat (first|exact q9.nil|refine q9.cons rfl ?_));done))⟩
 rintro _ s' wJ ⟨rfl,B,b3,a6,h8,i,j,h,f,n,k,g,a3⟩;refine CW.sub a3 ?_;refine Sr λ_ e4=>zm rfl (zP rfl (zf rfl ?_));refine WL.ev (Ev.fQ (cs:=[.int .i64 (U.s.na:Int),.int .i64 (U.s.up:Int),.int .i64 (U.s.dn:Int),.int .i64 (U.s.mi:Int),.int .i64 (U.s.pl:Int),.int .i64 (U.s.al:Int)]) rfl rfl f rfl rfl) rfl ?_;refine WL.iQ (l:=[.int .i64 0,.int .i64 0,.int .i64 0,.int .i64 0,.int .i64 0,.int .i64 0]) rfl rfl λb5 m2 p T f4=>?_;have f3:=Nat.le_trans g.size f4;have g:=g.ta T;have j:=j.q5 T;have h:=h.q5 T;have n:=n.q5 T;have k:=k.q5 T;have h7:b≠b5:=by have:=i.lt;omega
 have i:=i.q5 T;have h6:c≠b5:=by have:=f.lt;omega
 have f:=f.q5 T;refine zss rfl rfl ao p rfl λl9 b1 O=>?_;(try simp only[qt] at b1);have g:=g.s1 O;have i:=i.kq O;have f:=f.kq O;have j:=j.q8 p O an;have h:=h.q8 p O an;have n:=n.q8 p O an;have k:=k.q8 p O an;have p:=b1;refine zz (e4 (zc λ_ e3=>?_));refine CW.gX 11 12 rfl cJ λi8 d2 d a=>?_;have g:=g.ta a;have i:=i.q5 a;have f:=f.q5 a;have p:=p.k0 a;have j:=j.q5 a;have h:=h.q5 a;have n:=n.q5 a;have k:=k.q5 a;have t:=i;have y:=f;have A:=p;refine wk 0 rfl d (eM rfl) (wk 1 rfl d (eP rfl) (wk 2 rfl d (eF rfl) (wk 3 rfl d (eF rfl) (wk 4 rfl d (λ_ o=>Ev.load rfl rfl ((t.q5 o).at_ rfl)) (wk 5 rfl d (eF rfl) (wk 6 rfl d (λ_ o=>Ev.load rfl rfl ((A.q5 o).at_ rfl)) (wk 7 rfl d (λ_ _=>Ev.jZ rfl rfl oO) (wt 8 rfl (λ_=>d) (λ_=>Ev.nilPtr rfl) (wt 9 rfl (λ_=>d) (λ_=>Ev.fieldAddr rfl) (wk 10 rfl d (eF rfl) ?_))))))))));refine WK.bJ 11 rfl oR oR rfl rfl o1 i oS rfl λl8 x M=>?_;(try simp only[qt] at x);have g:=g.s1 M;have f:=f.kq M;have p:=p.kq M;have j:=j.q8 i M an;have h:=h.q8 i M an;have n:=n.q8 i M an;have k:=k.q8 i M an;have i:=x;refine WK.done oR (d2 _ _ _ ?_);refine e3 (zc λ_ e2=>?_);refine CW.gX 11 12 rfl cJ λi7 d1 d a=>?_;have g:=g.ta a;have i:=i.q5 a;have f:=f.q5 a;have p:=p.k0 a;have j:=j.q5 a;have h:=h.q5 a;have n:=n.q5 a;have k:=k.q5 a;have t:=i;have y:=f;have A:=p;refine wk 0 rfl d (eM rfl) (wk 1 rfl d (eP rfl) (wk 2 rfl d (eF rfl) (wk 3 rfl d (eF rfl) (wk 4 rfl d (λ_ o=>Ev.load rfl rfl ((t.q5 o).at_ rfl)) (wk 5 rfl d (eF rfl) (wk 6 rfl d (λ_ o=>Ev.load rfl rfl ((A.q5 o).at_ rfl)) (wk 7 rfl d (λ_ _=>Ev.jZ rfl rfl oO) (wt 8 rfl (λ_=>d) (λ_=>Ev.nilPtr rfl) (wt 9 rfl (λ_=>d) (λ_=>Ev.fieldAddr rfl) (wk 10 rfl d (eF rfl) ?_))))))))));refine WK.bJ 11 rfl oR oR rfl rfl o1 i oS rfl λl7 x J=>?_;(try simp only[qt] at x);have g:=g.s1 J;have f:=f.kq J;have p:=p.kq J;have j:=j.q8 i J an;have h:=h.q8 i J an;have n:=n.q8 i J an;have k:=k.q8 i J an;have i:=x;refine WK.done oR (d1 _ _ _ ?_);refine e2 (zc λ_ e1=>?_);refine CW.gX 11 12 rfl cJ λi6 d0 d a=>?_;have g:=g.ta a;have i:=i.q5 a;have f:=f.q5 a;have p:=p.k0 a;have j:=j.q5 a;have h:=h.q5 a;have n:=n.q5 a;have k:=k.q5 a;have t:=i;have y:=f;have A:=p;refine wk 0 rfl d (eM rfl) (wk 1 rfl d (eP rfl) (wk 2 rfl d (eF rfl) (wk 3 rfl d (eF rfl) (wk 4 rfl d (λ_ o=>Ev.load rfl rfl ((t.q5 o).at_ rfl)) (wk 5 rfl d (eF rfl) (wk 6 rfl d (λ_ o=>Ev.load rfl rfl ((A.q5 o).at_ rfl)) (wk 7 rfl d (λ_ _=>Ev.jZ rfl rfl oO) (wt 8 rfl (λ_=>d) (λ_=>Ev.nilPtr rfl) (wt 9 rfl (λ_=>d) (λ_=>Ev.fieldAddr rfl) (wk 10 rfl d (eF rfl) ?_))))))))));refine WK.bJ 11 rfl oR oR rfl rfl o1 i oS rfl λl6 x I=>?_;(try simp only[qt] at x);have g:=g.s1 I;have f:=f.kq I;have p:=p.kq I;have j:=j.q8 i I an;have h:=h.q8 i I an;have n:=n.q8 i I an;have k:=k.q8 i I an;have i:=x;refine WK.done oR (d0 _ _ _ ?_);refine e1 (zc λ_ e0=>?_);refine CW.gX 11 12 rfl cJ λi5 c9 d a=>?_;have g:=g.ta a;have i:=i.q5 a;have f:=f.q5 a;have p:=p.k0 a;have j:=j.q5 a;have h:=h.q5 a;have n:=n.q5 a;have k:=k.q5 a;have t:=i;have y:=f;have A:=p;refine wk 0 rfl d (eM rfl) (wk 1 rfl d (eP rfl) (wk 2 rfl d (eF rfl) (wk 3 rfl d (eF rfl) (wk 4 rfl d (λ_ o=>Ev.load rfl rfl ((t.q5 o).at_ rfl)) (wk 5 rfl d (eF rfl) (wk 6 rfl d (λ_ o=>Ev.load rfl rfl ((A.q5 o).at_ rfl)) (wk 7 rfl d (λ_ _=>Ev.jZ rfl rfl oO) (wt 8 rfl (λ_=>d) (λ_=>Ev.nilPtr rfl) (wt 9 rfl (λ_=>d) (λ_=>Ev.fieldAddr rfl) (wk 10 rfl d (eF rfl) ?_))))))))));refine WK.bJ 11 rfl oR oR rfl rfl o1 i oS rfl λl5 x H=>?_;(try simp only[qt] at x);have g:=g.s1 H;have f:=f.kq H;have p:=p.kq H;have j:=j.q8 i H an;have h:=h.q8 i H an;have n:=n.q8 i H an;have k:=k.q8 i H an;have i:=x;refine WK.done oR (c9 _ _ _ ?_);refine e0 (zc λ_ d9=>?_);refine CW.gX 11 12 rfl cJ λi4 c8 d a=>?_;have g:=g.ta a;have i:=i.q5 a;have f:=f.q5 a;have p:=p.k0 a;have j:=j.q5 a;have h:=h.q5 a;have n:=n.q5 a;have k:=k.q5 a;have t:=i
 have y:=f;have A:=p;refine wk 0 rfl d (eM rfl) (wk 1 rfl d (eP rfl) (wk 2 rfl d (eF rfl) (wk 3 rfl d (eF rfl) (wk 4 rfl d (λ_ o=>Ev.load rfl rfl ((t.q5 o).at_ rfl)) (wk 5 rfl d (eF rfl) (wk 6 rfl d (λ_ o=>Ev.load rfl rfl ((A.q5 o).at_ rfl)) (wk 7 rfl d (λ_ _=>Ev.jZ rfl rfl oO) (wt 8 rfl (λ_=>d) (λ_=>Ev.nilPtr rfl) (wt 9 rfl (λ_=>d) (λ_=>Ev.fieldAddr rfl) (wk 10 rfl d (eF rfl) ?_))))))))));refine WK.bJ 11 rfl oR oR rfl rfl o1 i oS rfl λl4 x G=>?_;(try simp only[qt] at x);have g:=g.s1 G;have f:=f.kq G;have p:=p.kq G;have j:=j.q8 i G an;have h:=h.q8 i G an;have n:=n.q8 i G an;have k:=k.q8 i G an;have i:=x;refine WK.done oR (c8 _ _ _ ?_);refine d9 (zc λ_ d8=>?_);refine CW.gX 11 12 rfl cJ λi3 c7 d a=>?_;have g:=g.ta a;have i:=i.q5 a;have f:=f.q5 a;have p:=p.k0 a;have j:=j.q5 a;have h:=h.q5 a;have n:=n.q5 a;have k:=k.q5 a;have t:=i;have y:=f;have A:=p;refine wk 0 rfl d (eM rfl) (wk 1 rfl d (eP rfl) (wk 2 rfl d (eF rfl) (wk 3 rfl d (eF rfl) (wk 4 rfl d (λ_ o=>Ev.load rfl rfl ((t.q5 o).at_ rfl)) (wk 5 rfl d (eF rfl) (wk 6 rfl d (λ_ o=>Ev.load rfl rfl ((A.q5 o).at_ rfl)) (wk 7 rfl d (λ_ _=>Ev.jZ rfl rfl oO) (wt 8 rfl (λ_=>d) (λ_=>Ev.nilPtr rfl) (wt 9 rfl (λ_=>d) (λ_=>Ev.fieldAddr rfl) (wk 10 rfl d (eF rfl) ?_))))))))));refine WK.bJ 11 rfl oR oR rfl rfl o1 i oS rfl λl3 x X=>?_;(try simp only[qt] at x);have g:=g.s1 X;have f:=f.kq X;have j:=j.q8 i X an;have h:=h.q8 i X an;have n:=n.q8 i X an;have k:=k.q8 i X an;have i:=x;refine WK.done oR (c7 _ _ _ ?_);refine d8 (zc λ_ d7=>?_);refine CW.gX 15 16 rfl cJ λi2 c6 d a=>?_;have g:=g.ta a;have i:=i.q5 a;have f:=f.q5 a;have j:=j.q5 a;have h:=h.q5 a;have n:=n.q5 a;have k:=k.q5 a;have t:=i;have y:=f;refine wk 0 rfl d (eM rfl) (wk 1 rfl d (eM rfl) (wk 2 rfl d (eP rfl) (wk 3 rfl d (eF rfl) (wk 4 rfl d (λ_ o=>Ev.fQ rfl rfl (t.q5 o) rfl rfl) ?_))))
 try simp only[oL]
 refine wk 5 rfl d (eM rfl) (wk 6 rfl d (eP rfl) (wk 7 rfl d (eF rfl) (wk 8 rfl d (λ_ o=>Ev.fQ rfl rfl (y.q5 o) rfl rfl) ?_)))
 try simp only[oL]
 refine WK.k6 9 rfl oR hasF98 rfl rfl (bpq _ _ _ _ _ _ _ _ _ j n (hg.keepI f6 g) (aJ a9) (aJ a4)) λv w6 h'=>?_;obtain ⟨hD,C⟩:=h';rw[jX a9 a4] at hD;obtain ⟨f9,m6,rfl,a0⟩:=hD.cells;have g:=g.ta C;have i:=i.q5 C;have f:=f.q5 C;have h:=h.q5 C;have k:=k.q5 C;have d:=d.trans C;refine ⟨d,?_⟩;refine wk 10 rfl d (eM rfl) (wk 11 rfl d (eX rfl rfl) (wt 12 rfl (λ_=>d) (λ_=>Ev.extract rfl rfl) (wt 13 rfl (λ_=>d) (λ_=>Ev.nilPtr rfl) (wk 14 rfl d (eF rfl) ?_))));refine WK.nQ 15 rfl oR oR rfl rfl rfl ao i oS rfl λi0 x R=>?_;(try simp only[qt] at x);have g:=g.s1 R;have f:=f.kq R;have h:=h.q8 i R an;have k:=k.q8 i R an;have a0:=a0.q8 i R an;have i:=x;refine WK.done oR (c6 _ _ _ ?_);refine d7 (zc λ_ d6=>?_);refine CW.gX 15 16 rfl cJ λi1 c5 d a=>?_;have g:=g.ta a;have i:=i.q5 a;have f:=f.q5 a;have h:=h.q5 a;have k:=k.q5 a;have a0:=a0.q5 a;have t:=i;have y:=f;refine wk 0 rfl d (eM rfl) (wk 1 rfl d (eM rfl) (wk 2 rfl d (eP rfl) (wk 3 rfl d (eF rfl) (wk 4 rfl d (λ_ o=>Ev.fQ rfl rfl (t.q5 o) rfl rfl) ?_))))
 try simp only[oL]
 refine wk 5 rfl d (eM rfl) (wk 6 rfl d (eP rfl) (wk 7 rfl d (eF rfl) (wk 8 rfl d (λ_ o=>Ev.fQ rfl rfl (y.q5 o) rfl rfl) ?_)))
 try simp only[oL]
 refine WK.k6 9 rfl oR hasF98 rfl rfl (bpq _ _ _ _ _ _ _ _ _ h k (hg.keepI f6 g) (aJ b0) (aJ a5)) λv w7 h'=>?_;obtain ⟨hD,C⟩:=h';rw[jX b0 a5] at hD;obtain ⟨f8,m5,rfl,b9⟩:=hD.cells;have g:=g.ta C;have i:=i.q5 C;have a0:=a0.q5 C;have d:=d.trans C;refine ⟨d,?_⟩;refine wk 10 rfl d (eM rfl) (wk 11 rfl d (eX rfl rfl) (wt 12 rfl (λ_=>d) (λ_=>Ev.extract rfl rfl) (wt 13 rfl (λ_=>d) (λ_=>Ev.nilPtr rfl) (wk 14 rfl d (eF rfl) ?_))));refine WK.nQ 15 rfl oR oR rfl rfl rfl ao i oS rfl λh9 x a1=>?_;(try simp only[qt] at x);have g:=g.s1 a1;have a0:=a0.q8 i a1 an;have b9:=b9.q8 i a1 an;have i:=x;refine WK.done oR (c5 _ _ _ ?_);refine d6 (Sr λ_ d5=>za rfl (zz (d5 ?_)));refine zr (zr1 rfl rfl ?_);refine .inr ⟨e6,rfl,⟨f9,f8,?_,a0,b9⟩,g⟩;unfold Sh.merge SP.add;dsimp only;rw[<- a6,<- h8];exact i
theorem buj(b:Nat)(S:Sh)(w:World)(a:ShM 91 w b S)(e2:S.wf)(hg:GW w):Ret Tryz.prog 31 [.pointer (some ⟨b,0,none⟩),.pointer (some ⟨b,0,none⟩)] w λu w'=>(1099511627776<S.s.al+S.s.al/\u = .int .i64 2/\ShM 91 w' b S/\Chg [b] w w')\/(S.s.al+S.s.al<=1099511627776/\u = .int .i64 0/\ShM 91 w' b (S.merge S)/\Chg [b] w w'):=by
 obtain ⟨rv,rq,h,g,c⟩:=a;have e7:=h;have i3:=e2;obtain ⟨⟨b0,a9,a8,a7,a6,a5⟩,T,U,i4,i5⟩:=e2;have d:Chg [b] w w:=Chg.refl _ _;refine zE2 Tryz.func31 rfl ?_;refine Sr λ_ f6=>za rfl (zz (f6 (zc λ_ f5=>zc λ_ f4=>?_)));refine CW.jQ cJ oR λk3 f1 f=>?_;have d:=d.ta f;have h:=h.q5 f;have g:=g.q5 f;have c:=c.q5 f;refine ym rfl (yP rfl (yf rfl (yf rfl ?_)));refine WS.ev (Ev.load rfl rfl (h.at_ rfl)) rfl ?_;refine ym rfl (yP rfl (yf rfl (yf rfl ?_)));refine WS.ev (Ev.load rfl rfl (h.at_ rfl)) rfl ?_;refine WS.ev (Ev.jZ rfl rfl oO) rfl ?_;refine WS.ev (Ev.gtr rfl rfl) rfl ?_;refine WS.nil (f1 _ _ ?_);refine f4 ?_;refine zy rfl ?_ ?_<;>intro b7<;>try simp only[qs] at b7
 ·have e6:1099511627776<S.s.al+S.s.al:=by have:=b7;omega
  refine Sr λ_ f3=>za rfl (zz (f3 ?_));refine zr (zr1 rfl rfl ?_);exact .inl ⟨e6,rfl,⟨_,_,h,g,c⟩,d⟩
 have e3:S.s.al+S.s.al<=1099511627776:=by have:=b7;omega
 refine zkk (f5 ?_);refine CW.anx (λD s' w'=>D=[]/\∃ t b2:Nat,t=(if S.some/\(¬S.some\/key S.lo<key S.lo) then S.lo else S.lo)/\b2=(if S.some/\(¬S.some\/key S.hi<key S.hi) then S.hi else S.hi)/\BK w' b 91 [.int .i64 (S.s.na:Int),.int .i64 (S.s.up:Int),.int .i64 (S.s.dn:Int),.int .i64 (S.s.mi:Int),.int .i64 (S.s.pl:Int),.int .i64 (S.s.al:Int),.bool S.V.neg,rv,.int .i64 S.V.e,.bool S.Q.neg,rq,.int .i64 S.Q.e,.float .f64 t,.float .f64 b2]/\NU w' rv (wd S.V.m)/\NU w' rq (wd S.Q.m)/\Chg [b] w w'/\q9 [(0,.pointer (some ⟨b,0,none⟩)),(1,.pointer (some ⟨b,0,none⟩))] s') ?_ ?_
 ·refine Sr λ_ f2=>zm rfl ?_;refine WL.call hasF47 rfl rfl (arq b S _ ⟨rv,rq,h,g,c⟩ ⟨b0,a9,a8,a7,a6,a5⟩) λv w1 Y=>?_;obtain ⟨rfl,x⟩:=Y;have d:=d.ta x;have h:=h.q5 x;have g:=g.q5 x;have c:=c.q5 x;refine zz (f2 ?_);refine zy rfl ?_ ?_<;>intro b6<;>try simp only[qs] at b6
  ·have r:S.some:=by simpa using b6
   have a0:=r;rw[decide_eq_true r];refine CW.anx (λD s' w'=>D=[]/\∃ t:Nat,t=(if S.some/\(¬S.some\/key S.lo<key S.lo) then S.lo else S.lo)/\BK w' b 91 [.int .i64 (S.s.na:Int),.int .i64 (S.s.up:Int),.int .i64 (S.s.dn:Int),.int .i64 (S.s.mi:Int),.int .i64 (S.s.pl:Int),.int .i64 (S.s.al:Int),.bool S.V.neg,rv,.int .i64 S.V.e,.bool S.Q.neg,rq,.int .i64 S.Q.e,.float .f64 t,.float .f64 S.hi]/\NU w' rv (wd S.V.m)/\NU w' rq (wd S.Q.m)/\Chg [b] w w'/\q9 [(0,.pointer (some ⟨b,0,none⟩)),(1,.pointer (some ⟨b,0,none⟩))] s') ?_ ?_
   ·refine CW.axj 34 (decide (¬S.some\/key S.lo<key S.lo)) ?_ ?_
    ·intro p;refine CW.bZ 15 rfl cJ λi2 d1 a f=>?_;have p:=p.ta f;have h:=h.q5 f;have g:=g.q5 f;have c:=c.q5 f;have j:=h;refine wh 0 rfl a (eM rfl) ?_;refine WH.k6 1 rfl oR hasF47 rfl rfl (arq b S _ ⟨rv,rq,h,g,c⟩ ⟨b0,a9,a8,a7,a6,a5⟩) λv w2 Y=>?_;obtain ⟨rfl,x⟩:=Y;rw[show decide (Sh.some S)=true from decide_eq_true r];have p:=p.ta x;have a:=a.trans x;refine ⟨a,?_⟩;refine wh 2 rfl a (λ_ _=>Ev.not rfl) (wh 3 rfl a (eM rfl) (wg 4 rfl rfl rfl rfl rfl a (eM rfl) (wg 5 rfl rfl rfl rfl rfl a (eP rfl) (wg 6 rfl rfl rfl rfl rfl a (eF rfl) (wg 7 rfl rfl rfl rfl rfl a (λ_ i=>Ev.load rfl rfl ((j.q5 i).at_ rfl)) (wg 8 rfl rfl rfl rfl rfl a (eM rfl) (wg 9 rfl rfl rfl rfl rfl a (eP rfl) (wg 10 rfl rfl rfl rfl rfl a (eF rfl) (wg 11 rfl rfl rfl rfl rfl a (λ_ i=>Ev.load rfl rfl ((j.q5 i).at_ rfl)) ?_)))))))));refine WH.rX 12 rfl oR rfl rfl rfl rfl hasF97 rfl rfl (afj S.lo S.lo oO oO _) λv w3 Y=>?_;obtain ⟨rfl,rfl⟩:=Y;refine ⟨a,?_⟩;refine wg 13 rfl rfl rfl rfl rfl a (λ_ _=>Ev.lss rfl rfl) (wh 14 rfl a (λ_ _=>Ev.anq rfl rfl rfl) ?_);refine WH.done oR (d1 _ _ _ ?_);refine ⟨rfl,p,q9.g7 rfl ?_ ?_⟩
     ·first|exact (decide_eq_true (.inl a0)).symm|exact decide_eq_decide.2 (by rw[boj];exact ⟨.inr,λq=>q.resolve_left (λz=>z a0)⟩)
     exact SMg
    intro wM p;have d:=d.ta p;have h:=h.q5 p;have g:=g.q5 p;have c:=c.q5 p;refine zy rfl ?_ ?_<;>intro b4<;>try simp only[qs] at b4
    ·have hq : ¬S.some\/key S.lo<key S.lo:=by simpa using b4
     refine zS λ_ d0=>zm rfl (zm rfl (zP rfl (zf rfl (zl h rfl rfl (zP rfl (zf rfl ?_))))));refine WL.bJ rfl rfl o1 h oS rfl λh2 n R=>?_;(try simp only[qt] at n);have d:=d.s1 R;have g:=g.q8 h R an;have c:=c.q8 h R an;have h:=n;refine zz (d0 ?_);exact ⟨rfl,S.lo,(if_pos ⟨r,hq⟩).symm,h,g,c,d,(by first|((repeat (first|exact q9.refl|refine q9.nJ (by rfl) ?_));done)|((repeat (first|exact q9.nil|refine q9.cons rfl ?_));done))⟩
    have hq : ¬(¬S.some\/key S.lo<key S.lo):=by simpa using b4
    refine zkk ?_;exact ⟨rfl,S.lo,(if_neg (λq=>hq q.2)).symm,h,g,c,d,(by first|((repeat (first|exact q9.refl|refine q9.nJ (by rfl) ?_));done)|((repeat (first|exact q9.nil|refine q9.cons rfl ?_));done))⟩
   rintro _ s' wJ ⟨rfl,t,a1,h,g,c,d,Z⟩;refine CW.sub Z ?_;refine CW.axj 56 (decide (¬S.some\/key S.hi<key S.hi)) ?_ ?_
   ·intro p;refine CW.bZ 15 rfl cJ λi1 c9 a f=>?_;have p:=p.ta f;have h:=h.q5 f;have g:=g.q5 f;have c:=c.q5 f;have j:=h;refine wh 0 rfl a (eM rfl) ?_;refine WH.k6 1 rfl oR hasF47 rfl rfl (arq b ⟨S.s,S.V,S.Q,t,S.hi⟩ _ ⟨rv,rq,h,g,c⟩ ⟨b0,a9,a8,a7,a6,a5⟩) λv w4 Y=>?_;obtain ⟨rfl,x⟩:=Y;rw[show decide (Sh.some ⟨S.s,S.V,S.Q,t,S.hi⟩)=true from decide_eq_true r];have p:=p.ta x;have a:=a.trans x;refine ⟨a,?_⟩;refine wh 2 rfl a (λ_ _=>Ev.not rfl) (wh 3 rfl a (eM rfl) (wg 4 rfl rfl rfl rfl rfl a (eM rfl) (wg 5 rfl rfl rfl rfl rfl a (eP rfl) (wg 6 rfl rfl rfl rfl rfl a (eF rfl) (wg 7 rfl rfl rfl rfl rfl a (λ_ i=>Ev.load rfl rfl ((j.q5 i).at_ rfl)) (wg 8 rfl rfl rfl rfl rfl a (eM rfl) (wg 9 rfl rfl rfl rfl rfl a (eP rfl) (wg 10 rfl rfl rfl rfl rfl a (eF rfl) (wg 11 rfl rfl rfl rfl rfl a (λ_ i=>Ev.load rfl rfl ((j.q5 i).at_ rfl)) ?_)))))))));refine WH.rX 12 rfl oR rfl rfl rfl rfl hasF97 rfl rfl (afj S.hi S.hi oO oO _) λv w5 Y=>?_;obtain ⟨rfl,rfl⟩:=Y;refine ⟨a,?_⟩;refine wg 13 rfl rfl rfl rfl rfl a (λ_ _=>Ev.gtr rfl rfl) (wh 14 rfl a (λ_ _=>Ev.anq rfl rfl rfl) ?_);refine WH.done oR (c9 _ _ _ ?_);refine ⟨rfl,p,q9.g7 rfl ?_ ?_⟩
    ·first|exact (decide_eq_true (.inl a0)).symm|exact decide_eq_decide.2 (by rw[afx];exact ⟨.inr,λq=>q.resolve_left (λz=>z a0)⟩)
    exact SMg
   intro wM p;have d:=d.ta p;have h:=h.q5 p;have g:=g.q5 p;have c:=c.q5 p;refine zy rfl ?_ ?_<;>intro b3<;>try simp only[qs] at b3
   ·have hq : ¬S.some\/key S.hi<key S.hi:=by simpa using b3
    refine zS λ_ c8=>zm rfl (zm rfl (zP rfl (zf rfl (zl h rfl rfl (zP rfl (zf rfl ?_))))));refine WL.bJ rfl rfl o1 h oS rfl λh1 n O=>?_;(try simp only[qt] at n);have d:=d.s1 O;have g:=g.q8 h O an;have c:=c.q8 h O an;have h:=n;refine zz (c8 ?_);exact ⟨rfl,t,S.hi,a1,(if_pos ⟨r,hq⟩).symm,h,g,c,d,(by first|((repeat (first|exact q9.refl|refine q9.nJ (by rfl) ?_));done)|((repeat (first|exact q9.nil|refine q9.cons rfl ?_));done))⟩
   have hq : ¬(¬S.some\/key S.hi<key S.hi):=by simpa using b3
   refine zkk ?_;exact ⟨rfl,t,S.hi,a1,(if_neg (λq=>hq q.2)).symm,h,g,c,d,(by first|((repeat (first|exact q9.refl|refine q9.nJ (by rfl) ?_));done)|((repeat (first|exact q9.nil|refine q9.cons rfl ?_));done))⟩
  have r : ¬S.some:=by simpa using b6
  refine zkk ?_;exact ⟨rfl,S.lo,S.hi,(if_neg (λq=>r q.1)).symm,(if_neg (λq=>r q.1)).symm,h,g,c,d,(by first|((repeat (first|exact q9.refl|refine q9.nJ (by rfl) ?_));done)|((repeat (first|exact q9.nil|refine q9.cons rfl ?_));done))⟩
 rintro _ s' wJ ⟨rfl,t,b2,a1,f8,h,g,c,d,Z⟩;refine CW.sub Z ?_;refine Sr λ_ e1=>zm rfl (zP rfl (zf rfl ?_));refine WL.ev (Ev.fQ (cs:=[.int .i64 (S.s.na:Int),.int .i64 (S.s.up:Int),.int .i64 (S.s.dn:Int),.int .i64 (S.s.mi:Int),.int .i64 (S.s.pl:Int),.int .i64 (S.s.al:Int)]) rfl rfl h rfl rfl) rfl ?_;refine WL.iQ (l:=[.int .i64 0,.int .i64 0,.int .i64 0,.int .i64 0,.int .i64 0,.int .i64 0]) rfl rfl λb5 i7 k X e5=>?_;have e4:=Nat.le_trans d.size e5;have d:=d.ta X;have g:=g.q5 X;have c:=c.q5 X;have f7:b≠b5:=by have:=h.lt;omega
 have h:=h.q5 X;refine zss rfl rfl ao k rfl λh0 a2 G=>?_;(try simp only[qt] at a2);have d:=d.s1 G;have h:=h.kq G;have g:=g.q8 k G an;have c:=c.q8 k G an;have k:=a2;refine zz (e1 (zc λ_ e0=>?_));refine CW.gX 11 12 rfl cJ λi0 c7 a f=>?_;have d:=d.ta f;have h:=h.q5 f;have k:=k.k0 f;have g:=g.q5 f;have c:=c.q5 f;have j:=h;have o:=k;refine wk 0 rfl a (eM rfl) (wk 1 rfl a (eP rfl) (wk 2 rfl a (eF rfl) (wk 3 rfl a (eF rfl) (wk 4 rfl a (λ_ i=>Ev.load rfl rfl ((j.q5 i).at_ rfl)) (wk 5 rfl a (eF rfl) (wk 6 rfl a (λ_ i=>Ev.load rfl rfl ((o.q5 i).at_ rfl)) (wk 7 rfl a (λ_ _=>Ev.jZ rfl rfl oO) (wt 8 rfl (λ_=>a) (λ_=>Ev.nilPtr rfl) (wt 9 rfl (λ_=>a) (λ_=>Ev.fieldAddr rfl) (wk 10 rfl a (eF rfl) ?_))))))))));refine WK.bJ 11 rfl oR oR rfl rfl o1 h oS rfl λg9 n F=>?_;(try simp only[qt] at n);have d:=d.s1 F;have k:=k.kq F;have g:=g.q8 h F an;have c:=c.q8 h F an;have h:=n;refine WK.done oR (c7 _ _ _ ?_);refine e0 (zc λ_ d9=>?_);refine CW.gX 11 12 rfl cJ λh9 c6 a f=>?_;have d:=d.ta f;have h:=h.q5 f;have k:=k.k0 f;have g:=g.q5 f;have c:=c.q5 f;have j:=h;have o:=k;refine wk 0 rfl a (eM rfl) (wk 1 rfl a (eP rfl) (wk 2 rfl a (eF rfl) (wk 3 rfl a (eF rfl) (wk 4 rfl a (λ_ i=>Ev.load rfl rfl ((j.q5 i).at_ rfl)) (wk 5 rfl a (eF rfl) (wk 6 rfl a (λ_ i=>Ev.load rfl rfl ((o.q5 i).at_ rfl)) (wk 7 rfl a (λ_ _=>Ev.jZ rfl rfl oO) (wt 8 rfl (λ_=>a) (λ_=>Ev.nilPtr rfl) (wt 9 rfl (λ_=>a) (λ_=>Ev.fieldAddr rfl) (wk 10 rfl a (eF rfl) ?_))))))))));refine WK.bJ 11 rfl oR oR rfl rfl o1 h oS rfl λg5 n C=>?_;(try simp only[qt] at n);have d:=d.s1 C;have k:=k.kq C;have g:=g.q8 h C an;have c:=c.q8 h C an;have h:=n;refine WK.done oR (c6 _ _ _ ?_);refine d9 (zc λ_ d8=>?_);refine CW.gX 11 12 rfl cJ λh8 c5 a f=>?_;have d:=d.ta f;have h:=h.q5 f;have k:=k.k0 f;have g:=g.q5 f;have c:=c.q5 f;have j:=h;have o:=k;refine wk 0 rfl a (eM rfl) (wk 1 rfl a (eP rfl) (wk 2 rfl a (eF rfl) (wk 3 rfl a (eF rfl) (wk 4 rfl a (λ_ i=>Ev.load rfl rfl ((j.q5 i).at_ rfl)) (wk 5 rfl a (eF rfl) (wk 6 rfl a (λ_ i=>Ev.load rfl rfl ((o.q5 i).at_ rfl)) (wk 7 rfl a (λ_ _=>Ev.jZ rfl rfl oO) (wt 8 rfl (λ_=>a) (λ_=>Ev.nilPtr rfl) (wt 9 rfl (λ_=>a) (λ_=>Ev.fieldAddr rfl) (wk 10 rfl a (eF rfl) ?_))))))))))
 refine WK.bJ 11 rfl oR oR rfl rfl o1 h oS rfl λg4 n B=>?_;(try simp only[qt] at n);have d:=d.s1 B;have k:=k.kq B;have g:=g.q8 h B an;have c:=c.q8 h B an;have h:=n;refine WK.done oR (c5 _ _ _ ?_);refine d8 (zc λ_ d7=>?_);refine CW.gX 11 12 rfl cJ λh7 c4 a f=>?_;have d:=d.ta f;have h:=h.q5 f;have k:=k.k0 f;have g:=g.q5 f;have c:=c.q5 f;have j:=h;have o:=k;refine wk 0 rfl a (eM rfl) (wk 1 rfl a (eP rfl) (wk 2 rfl a (eF rfl) (wk 3 rfl a (eF rfl) (wk 4 rfl a (λ_ i=>Ev.load rfl rfl ((j.q5 i).at_ rfl)) (wk 5 rfl a (eF rfl) (wk 6 rfl a (λ_ i=>Ev.load rfl rfl ((o.q5 i).at_ rfl)) (wk 7 rfl a (λ_ _=>Ev.jZ rfl rfl oO) (wt 8 rfl (λ_=>a) (λ_=>Ev.nilPtr rfl) (wt 9 rfl (λ_=>a) (λ_=>Ev.fieldAddr rfl) (wk 10 rfl a (eF rfl) ?_))))))))));refine WK.bJ 11 rfl oR oR rfl rfl o1 h oS rfl λg3 n A=>?_;(try simp only[qt] at n);have d:=d.s1 A;have k:=k.kq A;have g:=g.q8 h A an;have c:=c.q8 h A an;have h:=n;refine WK.done oR (c4 _ _ _ ?_);refine d7 (zc λ_ d6=>?_);refine CW.gX 11 12 rfl cJ λh6 c3 a f=>?_;have d:=d.ta f;have h:=h.q5 f;have k:=k.k0 f;have g:=g.q5 f;have c:=c.q5 f;have j:=h;have o:=k;refine wk 0 rfl a (eM rfl) (wk 1 rfl a (eP rfl) (wk 2 rfl a (eF rfl) (wk 3 rfl a (eF rfl) (wk 4 rfl a (λ_ i=>Ev.load rfl rfl ((j.q5 i).at_ rfl)) (wk 5 rfl a (eF rfl) (wk 6 rfl a (λ_ i=>Ev.load rfl rfl ((o.q5 i).at_ rfl)) (wk 7 rfl a (λ_ _=>Ev.jZ rfl rfl oO) (wt 8 rfl (λ_=>a) (λ_=>Ev.nilPtr rfl) (wt 9 rfl (λ_=>a) (λ_=>Ev.fieldAddr rfl) (wk 10 rfl a (eF rfl) ?_))))))))));refine WK.bJ 11 rfl oR oR rfl rfl o1 h oS rfl λg2 n y=>?_;(try simp only[qt] at n);have d:=d.s1 y;have k:=k.kq y;have g:=g.q8 h y an;have c:=c.q8 h y an;have h:=n;refine WK.done oR (c3 _ _ _ ?_);refine d6 (zc λ_ d5=>?_);refine CW.gX 11 12 rfl cJ λh5 c2 a f=>?_;have d:=d.ta f;have h:=h.q5 f;have k:=k.k0 f;have g:=g.q5 f;have c:=c.q5 f;have j:=h;have o:=k;refine wk 0 rfl a (eM rfl) (wk 1 rfl a (eP rfl) (wk 2 rfl a (eF rfl) (wk 3 rfl a (eF rfl) (wk 4 rfl a (λ_ i=>Ev.load rfl rfl ((j.q5 i).at_ rfl)) (wk 5 rfl a (eF rfl) (wk 6 rfl a (λ_ i=>Ev.load rfl rfl ((o.q5 i).at_ rfl)) (wk 7 rfl a (λ_ _=>Ev.jZ rfl rfl oO) (wt 8 rfl (λ_=>a) (λ_=>Ev.nilPtr rfl) (wt 9 rfl (λ_=>a) (λ_=>Ev.fieldAddr rfl) (wk 10 rfl a (eF rfl) ?_))))))))))
 refine WK.bJ 11 rfl oR oR rfl rfl o1 h oS rfl λg1 n M=>?_;(try simp only[qt] at n);have d:=d.s1 M;have g:=g.q8 h M an;have c:=c.q8 h M an;have h:=n;refine WK.done oR (c2 _ _ _ ?_);refine d5 (zc λ_ d4=>?_);refine CW.gX 15 16 rfl cJ λh4 c1 a f=>?_;have d:=d.ta f;have h:=h.q5 f;have g:=g.q5 f;have c:=c.q5 f;have j:=h;refine wk 0 rfl a (eM rfl) (wk 1 rfl a (eM rfl) (wk 2 rfl a (eP rfl) (wk 3 rfl a (eF rfl) (wk 4 rfl a (λ_ i=>Ev.fQ rfl rfl (j.q5 i) rfl rfl) ?_))))
 try simp only[oL]
 refine wk 5 rfl a (eM rfl) (wk 6 rfl a (eP rfl) (wk 7 rfl a (eF rfl) (wk 8 rfl a (λ_ i=>Ev.fQ rfl rfl (j.q5 i) rfl rfl) ?_)))
 try simp only[oL]
 refine WK.k6 9 rfl oR hasF98 rfl rfl (bpq _ _ _ _ _ _ _ _ _ g g (hg.keepI e7 d) (aJ T) (aJ T)) λv w6 Y=>?_;obtain ⟨hD,x⟩:=Y;rw[jX T T] at hD;obtain ⟨f0,k2,rfl,H⟩:=hD.cells;have d:=d.ta x;have h:=h.q5 x;have c:=c.q5 x;have a:=a.trans x;refine ⟨a,?_⟩;refine wk 10 rfl a (eM rfl) (wk 11 rfl a (eX rfl rfl) (wt 12 rfl (λ_=>a) (λ_=>Ev.extract rfl rfl) (wt 13 rfl (λ_=>a) (λ_=>Ev.nilPtr rfl) (wk 14 rfl a (eF rfl) ?_))));refine WK.nQ 15 rfl oR oR rfl rfl rfl ao h oS rfl λg0 n J=>?_;(try simp only[qt] at n);have d:=d.s1 J;have c:=c.q8 h J an;have H:=H.q8 h J an;have h:=n;refine WK.done oR (c1 _ _ _ ?_);refine d4 (zc λ_ d3=>?_);refine CW.gX 15 16 rfl cJ λh3 c0 a f=>?_;have d:=d.ta f;have h:=h.q5 f;have c:=c.q5 f;have H:=H.q5 f;have j:=h;refine wk 0 rfl a (eM rfl) (wk 1 rfl a (eM rfl) (wk 2 rfl a (eP rfl) (wk 3 rfl a (eF rfl) (wk 4 rfl a (λ_ i=>Ev.fQ rfl rfl (j.q5 i) rfl rfl) ?_))))
 try simp only[oL]
 refine wk 5 rfl a (eM rfl) (wk 6 rfl a (eP rfl) (wk 7 rfl a (eF rfl) (wk 8 rfl a (λ_ i=>Ev.fQ rfl rfl (j.q5 i) rfl rfl) ?_)))
 try simp only[oL]
 refine WK.k6 9 rfl oR hasF98 rfl rfl (bpq _ _ _ _ _ _ _ _ _ c c (hg.keepI e7 d) (aJ U) (aJ U)) λv w7 Y=>?_;obtain ⟨hD,x⟩:=Y;rw[jX U U] at hD;obtain ⟨e9,k1,rfl,b8⟩:=hD.cells;have d:=d.ta x;have h:=h.q5 x;have H:=H.q5 x;have a:=a.trans x;refine ⟨a,?_⟩;refine wk 10 rfl a (eM rfl) (wk 11 rfl a (eX rfl rfl) (wt 12 rfl (λ_=>a) (λ_=>Ev.extract rfl rfl) (wt 13 rfl (λ_=>a) (λ_=>Ev.nilPtr rfl) (wk 14 rfl a (eF rfl) ?_))));refine WK.nQ 15 rfl oR oR rfl rfl rfl ao h oS rfl λf9 n I=>?_;(try simp only[qt] at n);have d:=d.s1 I;have H:=H.q8 h I an;have b8:=b8.q8 h I an;have h:=n;refine WK.done oR (c0 _ _ _ ?_);refine d3 (Sr λ_ d2=>za rfl (zz (d2 ?_)));refine zr (zr1 rfl rfl ?_);refine .inr ⟨e3,rfl,⟨f0,e9,?_,H,b8⟩,d⟩;unfold Sh.merge SP.add;dsimp only;rw[<- a1,<- f8];exact h
def shE(s:SP)(mode pn pi:Int):Int:=if ¬((0<=mode/\mode<=4)/\xJ pn pi) then 1 else dxj s pn pi
def crx(S:Sh)(mode pn pi:Int)(b:Nat)(e:Int):Prop:=
  (shE S.s mode pn pi≠0/\b=0/\e=shE S.s mode pn pi)\/(shE S.s mode pn pi=0/\((∃ x,lQ S.s pn pi = .some x/\b=x/\e=0)\/(lQ S.s pn pi = .none/\
    ((S.V.m=0/\b=acj S.s mode/\e=0)\/(S.V.m≠0/\cxj (.some S.V) mode b e)))))
def c6x(S:Sh)(mode pn pi:Int)(b:Nat)(e:Int):Prop:=
  (shE S.s mode pn pi≠0/\b=0/\e=shE S.s mode pn pi)\/(shE S.s mode pn pi=0/\((∃ x,lQ S.s pn pi = .some x/\b=x/\e=0)\/(lQ S.s pn pi = .none/\
    ((S.fin=0/\b=0/\e=3)\/(S.fin≠0/\((S.V.m=0/\b=acj S.s mode/\e=0)\/(S.V.m≠0/\buq S.V.neg (cZ S.fin).neg S.V.m (cZ S.fin).m S.V.e (cZ S.fin).e mode b e)))))))
def bvq(S:Sh)(x:Nat):Nat×Int:=if S.s.al=0 then (0,3) else if ¬S.some then (9221120237041090560,0) else (x,0)
theorem bqx(s:SP)(a b:Int):(∃ x,lQ s a b = .some x/\(lQ s a b).isSome=true/\(lQ s a b).getD 0=x)\/(lQ s a b = .none/\(lQ s a b).isSome=false):=by
  cases h:lQ s a b with
  | none=>exact .inr ⟨rfl,rfl⟩
  | some x=>exact .inl ⟨x,rfl,rfl,rfl⟩
theorem sgD_nz{d:Dy}: sgD d.neg d.m=0↔d.m=0:=a7j
theorem of_quot{d:Dy}{n mode:Int}{b:Nat}{e:Int}(f:d.ok)(g:d.m≠0)(c:0<=mode/\mode<=4)(l:1<=n)(k:n<=1099511627776)(h:ofR d.neg d.m d.e n mode b e):buq d.neg (cZ n).neg d.m (cZ n).m d.e (cZ n).e mode b e:=by
  rcases h with ⟨q,_⟩|⟨_,⟨q,_⟩|⟨o,a,i⟩⟩
  · exact absurd ⟨c,l,k⟩ q
  · rw[mX f] at q;cases q
  · rw[mX f] at a;cases a
    rcases i with ⟨q,_⟩|⟨_,j⟩
    · exact absurd q g
    · rwa [show ((n.toNat:Nat):Int)=n by omega] at j
theorem a8x(b:Nat)(S:Sh)(mode d e:Int)(w:World)(hS:ShM 91 w b S)(D:S.wf)(hg:GW w):Ret Tryz.prog 72 [.pointer (some ⟨b,0,none⟩),.int .i64 mode,.agg [.int .i64 d,.int .i64 e].toArray] w λu w'=>u = .int .i64 (shE S.s mode d e)/\Chg [] w w':=by
 obtain ⟨rv,rq,g,a9,b0⟩:=hS;obtain ⟨H,R,T,U,V⟩:=D;obtain ⟨a5,a4,a3,a2,a1,a0⟩:=H;have a:=crf w;have a6:=hg;refine zE3 Tryz.func72 rfl ?_;refine Sr λ_ C=>?_;refine zBh rfl rfl rfl a λb5 Z f t X r a=>?_;have G:b≠b5:=by have:=g.lt;omega
 have g:=g.q5 t;refine za rfl (zz (C (zc λ_ B=>CW.block ?_)));refine CW.axj 7 (decide (¬((0<=mode/\mode<=4)/\xJ d e))) ?_ ?_
 ·intro c;refine zS λ_ j=>zm rfl (zL rfl rfl (zm rfl ?_));refine zb ?_ ?_<;>intro M<;>try simp only[qs] at M
  ·refine zv rfl (zv rfl (zt rfl rfl (zm rfl (zv rfl (zv rfl (zv rfl (zt rfl rfl (za rfl (zz (j ?_))))))))));refine ⟨rfl,c,q9.g7 rfl ?_ ?_⟩
   ·first|(simp_all;done)|(simp;omega)|(refine decide_eq_decide.2 ?_;omega)|(cases hdm:decide (xJ d e)<;>simp_all<;>omega)
   exact SMg
  refine zw rfl (zm rfl (zw rfl (zG rfl rfl (ze rfl rfl (zm rfl ?_)))));refine zb ?_ ?_<;>intro J<;>try simp only[qs] at J
  ·refine zv rfl (zv rfl (zv rfl (zt rfl rfl (za rfl (zz (j ?_))))));refine ⟨rfl,c,q9.g7 rfl ?_ ?_⟩
   ·first|(simp_all;done)|(simp;omega)|(refine decide_eq_decide.2 ?_;omega)|(cases hdm:decide (xJ d e)<;>simp_all<;>omega)
   exact SMg
  refine zw rfl (zg f rfl (zw rfl ?_));refine WL.call hasF129 rfl rfl (dwx d e _) λv w1 h'=>?_;obtain ⟨rfl,hC⟩:=h';have c:=c.ta hC;refine zw rfl (zT rfl (ze rfl rfl (za rfl (zz (j ?_)))));refine ⟨rfl,c,q9.g7 rfl ?_ ?_⟩
  ·first|(simp_all;done)|(simp;omega)|(refine decide_eq_decide.2 ?_;omega)|(cases hdm:decide (xJ d e)<;>simp_all<;>omega)
  exact SMg
 intro wM c;have a:=a.ta c;have g:=g.q5 c;have f:=f.k0 c;refine zy rfl ?_ ?_<;>intro n<;>try simp only[qs] at n
 ·have F : ¬((0<=mode/\mode<=4)/\xJ d e):=n
  refine Sr λ_ A=>za rfl (zz (A ?_));refine zr (zr1 rfl rfl ?_);refine ⟨?_,a⟩;rw[show shE S.s mode d e=1 from if_pos F]
 have F : ¬¬((0<=mode/\mode<=4)/\xJ d e):=λz=>z n;have Y:shE S.s mode d e=dxj S.s d e:=if_neg F;rw[Y];refine CW.oJ 19 (decide (0<S.s.na/\d=2)) ?_ ?_
 ·refine zS λ_ o=>zm rfl (zP rfl (zf rfl (zf rfl (zl g rfl rfl (zG rfl rfl (zm rfl ?_))))));refine zb ?_ ?_<;>intro I<;>try simp only[qs] at I
  ·refine zw rfl (zf rfl (zw rfl (zl f rfl rfl (zw rfl (zq rfl rfl (zt rfl rfl (za rfl (zz (o ?_)))))))));refine ⟨rfl,rfl,q9.g7 rfl ?_ ?_⟩
   ·first|(simp_all;done)|(simp;omega)|(refine decide_eq_decide.2 ?_;omega)
   exact SMg
  refine zv rfl (zv rfl (zv rfl (ze rfl rfl (za rfl (zz (o ?_))))));refine ⟨rfl,rfl,q9.g7 rfl ?_ ?_⟩
  ·first|(simp_all;done)|(simp;omega)|(refine decide_eq_decide.2 ?_;omega)
  exact SMg
 refine zy rfl ?_ ?_<;>intro m<;>try simp only[qs] at m
 ·have x:0<S.s.na/\d=2:=m
  refine Sr λ_ y=>za rfl (zz (y ?_));refine zr (zr1 rfl rfl ?_);refine ⟨?_,a⟩;rw[show dxj S.s d e=60 from if_pos x]
 have x : ¬(0<S.s.na/\d=2):=m;refine CW.seqMD 31 (decide (0<S.s.up+S.s.dn/\e=2)) ?_ ?_
 ·refine CW.jQ cJ oR λQ i h=>?_;have g:=g.q5 h;have f:=f.k0 h;refine ym rfl (yP rfl (yf rfl (yf rfl ?_)));refine WS.ev (Ev.load rfl rfl (g.at_ rfl)) rfl ?_;refine ym rfl (yP rfl (yf rfl (yf rfl ?_)));refine WS.ev (Ev.load rfl rfl (g.at_ rfl)) rfl ?_
  first|refine WS.ev (Ev.jZ rfl rfl oO) rfl ?_|refine WS.ev (Ev.add rfl rfl) rfl ?_
  refine WS.ev (Ev.gtr rfl rfl) rfl ?_;refine ym rfl ?_;refine WS.afq (λk=>?_) (λk=>?_)
  ·(try simp only[qs] at k);refine yw rfl (yf rfl (yw rfl ?_));refine WS.ev (Ev.load rfl rfl (f.at_ rfl)) rfl ?_
   refine yw rfl ?_;refine WS.ev (Ev.eql rfl rfl) rfl ?_;refine yt rfl rfl (ya rfl ?_);refine WS.nil (i _ _ ?_);refine ⟨rfl,rfl,q9.g7 rfl ?_ ?_⟩
   ·first|(simp_all;done)|(simp;omega)|(refine decide_eq_decide.2 ?_;omega)
   exact SMg
  (try simp only[qs] at k);refine yv rfl (yv rfl (yv rfl (ye rfl rfl (ya rfl ?_))));refine WS.nil (i _ _ ?_);refine ⟨rfl,rfl,q9.g7 rfl ?_ ?_⟩
  ·first|(simp_all;done)|(simp;omega)|(refine decide_eq_decide.2 ?_;omega)
  exact SMg
 intro h;have a:=a.ta h;refine zy rfl ?_ ?_<;>intro l<;>try simp only[qs] at l
 ·have O:0<S.s.up+S.s.dn/\e=2:=l
  refine Sr λ_ q=>za rfl (zz (q ?_));refine zr (zr1 rfl rfl ?_);refine ⟨?_,a⟩;rw[show dxj S.s d e=61 from (if_neg x).trans (if_pos O)]
 have O : ¬(0<S.s.up+S.s.dn/\e=2):=l;refine zkk (B (Sr λ_ p=>za rfl (zz (p ?_))));refine zr (zr1 rfl rfl ?_);refine ⟨?_,a⟩;rw[Y,show dxj S.s d e=0 from (if_neg x).trans (if_neg O)]
theorem dbj(b:Nat)(S:Sh)(mode i j:Int)(w:World)(g:ShM 91 w b S)(a6:S.wf)(hg:GW w):Ret Tryz.prog 23 [.pointer (some ⟨b,0,none⟩),.int .i64 mode,.agg [.int .i64 i,.int .i64 j].toArray] w λu w'=>(∃ x e,u = .tuple [.float .f64 x,.int .i64 e].toArray/\crx S mode i j x e)/\Chg [] w w':=by
 obtain ⟨rv,rq,f,c,B⟩:=g;obtain ⟨b7,k,R,T,U⟩:=a6;obtain ⟨b4,b3,b2,b1,b0,a9⟩:=b7;have a:=crf w;have Y:=hg;refine zE3 Tryz.func23 rfl ?_;refine Sr λ_ a5=>?_;refine zBh rfl rfl rfl a λb5 c2 h l c0 X a=>?_;have c:=c.q5 l;have B:=B.q5 l;have b6:b≠b5:=by have:=f.lt;omega
 have f:=f.q5 l;refine za rfl (za rfl (zz (a5 (zc λ_ a4=>Sr λ_ a3=>zm rfl (zm rfl (zg h rfl ?_))))));refine WL.call hasF72 rfl rfl (a8x b S mode i j _ ⟨rv,rq,f,c,B⟩ ⟨⟨b4,b3,b2,b1,b0,a9⟩,k,R,T,U⟩ (Y.q5 a)) λv w1 o=>?_;obtain ⟨rfl,d⟩:=o;have a:=a.ta d;have f:=f.q5 d;have h:=h.k0 d;have c:=c.q5 d;refine za rfl (zz (a3 (Sr λ_ a2=>zm rfl (zN rfl rfl (zz (a2 ?_))))));refine zy rfl ?_ ?_<;>intro z<;>try simp only[qs] at z
 ·have h0:shE S.s mode i j≠0:=z
  refine Sr λ_ a1=>zm rfl (za rfl (za rfl (zz (a1 ?_))));refine zr (zr2 rfl rfl rfl ?_);refine ⟨⟨_,_,rfl,?_⟩,a⟩;exact .inl ⟨h0,rfl,rfl⟩
 have h0:shE S.s mode i j=0:=by have:=z;omega
 refine zkk (a4 (zc λ_ O=>zc λ_ M=>?_));refine CW.bZ 11 rfl cJ λb8 C g n=>?_;have a:=a.ta n;have f:=f.q5 n;have h:=h.k0 n;have c:=c.q5 n;have Z:=f;have A:=h;refine wh 0 rfl g (eM rfl) (wh 1 rfl g (eP rfl) (wh 2 rfl g (eF rfl) (wh 3 rfl g (λ_ p=>Ev.fQ rfl rfl (Z.q5 p) rfl rfl) ?_)))
 try simp only[oL]
 refine wh 4 rfl g (λ_ p=>Ev.oQ rfl rfl (A.q5 p) rfl) ?_;refine WH.k6 5 rfl oR hasF73 rfl rfl (coj S.s i j _ ⟨by omega,by omega,by omega,by omega,by omega,by omega⟩) λv w2 o=>?_;obtain ⟨rfl,d⟩:=o;have Q:=bqx S.s i j;have a:=a.ta d;have f:=f.q5 d;have c:=c.q5 d;have g:=g.trans d;refine ⟨g,?_⟩;refine wh 6 rfl g (eM rfl) (wh 7 rfl g (eX rfl rfl) (wh 8 rfl g (eX rfl rfl) (wh 9 rfl g (eA rfl) (wh 10 rfl g (eA rfl) ?_))));refine WH.done oR (C _ _ _ ?_);refine M (Sr λ_ J=>zm rfl (zz (J ?_)));refine zy rfl ?_ ?_<;>intro y<;>try simp only[qs] at y
 ·obtain ⟨x,a8,c6,a7⟩ : ∃ x,lQ S.s i j = .some x/\(lQ S.s i j).isSome=true/\(lQ S.s i j).getD 0=x:=Q.resolve_right (λq=>by have:=y;rw[q.2] at this;exact Bool.false_ne_true this);rw[a7]
  refine Sr λ_ I=>zm rfl (za rfl (za rfl (zz (I ?_))));refine zr (zr2 rfl rfl rfl ?_);refine ⟨⟨_,_,rfl,?_⟩,a⟩;exact .inr ⟨h0,.inl ⟨x,a8,rfl,rfl⟩⟩
 have hv:lQ S.s i j = .none:=by
  rcases Q with ⟨_,_,q2,_⟩|q
  · have:=y;rw[q2] at this;exact absurd this oD
  exact q.1
 refine zkk (O (zc λ_ H=>Sr λ_ G=>zm rfl (zP rfl (zf rfl ?_))));refine WL.ev (Ev.fQ rfl rfl f rfl rfl) rfl ?_
 try simp only[oL]
 refine WL.call hasF74 rfl rfl (ajj _ _ _ _ _ c) λv w3 o=>?_;obtain ⟨rfl,d⟩:=o;rw[g6];have a:=a.ta d;have f:=f.q5 d;have c:=c.q5 d;refine zq rfl rfl (zz (G ?_));refine zy rfl ?_ ?_<;>intro t<;>try simp only[qs] at t
 ·have r:S.V.m=0:=sgD_nz.1 t
  refine Sr λ_ F=>zm rfl (zP rfl (zf rfl ?_));refine WL.ev (Ev.fQ rfl rfl f rfl rfl) rfl ?_
  try simp only[oL]
  refine zm rfl ?_;refine WL.call hasF75 rfl rfl (b2x S.s mode _ ⟨by omega,by omega,by omega,by omega,by omega,by omega⟩) λv w4 o=>?_;obtain ⟨rfl,d⟩:=o;have a:=a.ta d;refine za rfl (za rfl (zz (F ?_)));refine zr (zr2 rfl rfl rfl ?_);refine ⟨⟨_,_,rfl,?_⟩,a⟩;exact .inr ⟨h0,.inr ⟨hv,.inl ⟨r,rfl,rfl⟩⟩⟩
 have r:S.V.m≠0:=λq=>t (sgD_nz.2 q);refine zkk (H (Sr λ_ D=>zm rfl (zP rfl (zf rfl ?_))));refine WL.ev (Ev.fQ rfl rfl f rfl rfl) rfl ?_
 try simp only[oL]
 refine zm rfl ?_;refine WL.call hasF76 rfl rfl (c1x _ _ _ _ mode _ c (Y.q5 a) (aJ k)) λv w5 o=>?_;obtain ⟨⟨xb,xe,rfl,hR⟩,d⟩:=o;rw[g6,mX k] at hR;have a:=a.ta d;refine zx rfl rfl (zx rfl rfl (za rfl (za rfl (zz (D ?_)))));refine zr (zr2 rfl rfl rfl ?_);refine ⟨⟨_,_,rfl,?_⟩,a⟩;exact .inr ⟨h0,.inr ⟨hv,.inr ⟨r,hR⟩⟩⟩
theorem shMean_spec(b:Nat)(S:Sh)(mode l n:Int)(w:World)(f:ShM 91 w b S)(c1:S.wf)(hg:GW w)(J:0<=S.fin):Ret Tryz.prog 33 [.pointer (some ⟨b,0,none⟩),.int .i64 mode,.agg [.int .i64 l,.int .i64 n].toArray] w λu w'=>(∃ x e,u = .tuple [.float .f64 x,.int .i64 e].toArray/\c6x S mode l n x e)/\Chg [] w w':=by
 obtain ⟨rv,rq,h,c,d⟩:=f;obtain ⟨c7,p,a8,a9,b0⟩:=c1;obtain ⟨I,H,G,F,D,C⟩:=c7;have a:=crf w;have b2:=hg;have d6:0<=S.fin:=J;refine zE3 Tryz.func33 rfl ?_;refine Sr λ_ c0=>?_;refine zBh rfl rfl rfl a λb5 d2 j r d0 b1 a=>?_;have c:=c.q5 r;have d:=d.q5 r;have c5:b≠b5:=by have:=h.lt;omega
 have h:=h.q5 r;refine za rfl (za rfl (zz (c0 (zc λ_ b9=>Sr λ_ b8=>zm rfl (zm rfl (zg j rfl ?_))))));refine WL.call hasF72 rfl rfl (a8x b S mode l n _ ⟨rv,rq,h,c,d⟩ ⟨⟨I,H,G,F,D,C⟩,p,a8,a9,b0⟩ (b2.q5 a)) λv w1 k=>?_;obtain ⟨rfl,g⟩:=k;have a:=a.ta g;have h:=h.q5 g;have j:=j.k0 g;have c:=c.q5 g;have d:=d.q5 g;refine za rfl (zz (b8 (Sr λ_ b7=>zm rfl (zN rfl rfl (zz (b7 ?_))))));refine zy rfl ?_ ?_<;>intro R<;>try simp only[qs] at R
 ·have B:shE S.s mode l n≠0:=R
  refine Sr λ_ b6=>zm rfl (za rfl (za rfl (zz (b6 ?_))));refine zr (zr2 rfl rfl rfl ?_);refine ⟨⟨_,_,rfl,?_⟩,a⟩;exact .inl ⟨B,rfl,rfl⟩
 have B:shE S.s mode l n=0:=by have:=R;omega
 have c6:0<=mode/\mode<=4:=Classical.byContradiction λq=>by unfold shE at B;rw[if_pos (λz=>q z.1)] at B;cases B
 refine zkk (b9 (zc λ_ a6=>?_));refine CW.bZ 11 rfl cJ λc9 X f i=>?_;have a:=a.ta i;have h:=h.q5 i;have j:=j.k0 i;have c:=c.q5 i;have d:=d.q5 i;have t:=h;have T:=j;refine wh 0 rfl f (eM rfl) (wh 1 rfl f (eP rfl) (wh 2 rfl f (eF rfl) (wh 3 rfl f (λ_ o=>Ev.fQ rfl rfl (t.q5 o) rfl rfl) ?_)))
 try simp only[oL]
 refine wh 4 rfl f (λ_ o=>Ev.oQ rfl rfl (T.q5 o) rfl) ?_;refine WH.k6 5 rfl oR hasF73 rfl rfl (coj S.s l n _ ⟨by omega,by omega,by omega,by omega,by omega,by omega⟩) λv w2 k=>?_;obtain ⟨rfl,g⟩:=k;have a7:=bqx S.s l n;have a:=a.ta g;have h:=h.q5 g;have c:=c.q5 g;have d:=d.q5 g;have f:=f.trans g;refine ⟨f,?_⟩;refine wh 6 rfl f (eM rfl) (wh 7 rfl f (eX rfl rfl) (wh 8 rfl f (eX rfl rfl) (wh 9 rfl f (eA rfl) (wh 10 rfl f (eA rfl) ?_))));refine WH.done oR (X _ _ _ ?_);refine a6 (zc λ_ a5=>CW.block (Sr λ_ a4=>zm rfl (za rfl (zz (a4 ?_)))));refine zy rfl ?_ ?_<;>intro Q<;>try simp only[qs] at Q
 ·obtain ⟨x,c3,d4,c2⟩ : ∃ x,lQ S.s l n = .some x/\(lQ S.s l n).isSome=true/\(lQ S.s l n).getD 0=x:=a7.resolve_right (λq=>by have:=Q;rw[q.2] at this;exact Bool.false_ne_true this);rw[c2]
  refine Sr λ_ a3=>zm rfl (za rfl (za rfl (zz (a3 ?_))));refine zr (zr2 rfl rfl rfl ?_);refine ⟨⟨_,_,rfl,?_⟩,a⟩;exact .inr ⟨B,.inl ⟨x,c3,rfl,rfl⟩⟩
 have hv:lQ S.s l n = .none:=by
  rcases a7 with ⟨_,_,q2,_⟩|q
  · have:=Q;rw[q2] at this;exact absurd this oD
  exact q.1
 refine Sr λ_ a2=>zm rfl ?_;refine WL.call hasF78 rfl rfl (ajq b S _ ⟨rv,rq,h,c,d⟩ ⟨I,H,G,F,D,C⟩) λv w3 k=>?_;obtain ⟨rfl,g⟩:=k;have a:=a.ta g;have h:=h.q5 g;have c:=c.q5 g;have d:=d.q5 g;refine zq rfl rfl (za rfl (zz (a2 ?_)));refine zy rfl ?_ ?_<;>intro O<;>try simp only[qs] at O
 ·have A:S.fin=0:=O
  refine Sr λ_ a1=>za rfl (za rfl (zz (a1 ?_)));refine zr (zr2 rfl rfl rfl ?_);refine ⟨⟨_,_,rfl,?_⟩,a⟩;exact .inr ⟨B,.inr ⟨hv,.inl ⟨A,rfl,rfl⟩⟩⟩
 have A:S.fin≠0:=O;refine Sr λ_ a0=>zm rfl (zP rfl (zf rfl ?_));refine WL.ev (Ev.fQ rfl rfl h rfl rfl) rfl ?_
 try simp only[oL]
 refine WL.call hasF74 rfl rfl (ajj _ _ _ _ _ c) λv w4 k=>?_;obtain ⟨rfl,g⟩:=k;rw[g6];have a:=a.ta g;have h:=h.q5 g;have c:=c.q5 g;have d:=d.q5 g;refine zq rfl rfl (za rfl (zz (a0 ?_)));refine zy rfl ?_ ?_<;>intro M<;>try simp only[qs] at M
 ·have y:S.V.m=0:=sgD_nz.1 M
  refine Sr λ_ Z=>zm rfl (zP rfl (zf rfl ?_));refine WL.ev (Ev.fQ rfl rfl h rfl rfl) rfl ?_
  try simp only[oL]
  refine zm rfl ?_;refine WL.call hasF75 rfl rfl (b2x S.s mode _ ⟨by omega,by omega,by omega,by omega,by omega,by omega⟩) λv w5 k=>?_;obtain ⟨rfl,g⟩:=k;have a:=a.ta g;refine za rfl (za rfl (zz (Z ?_)));refine zr (zr2 rfl rfl rfl ?_);refine ⟨⟨_,_,rfl,?_⟩,a⟩;exact .inr ⟨B,.inr ⟨hv,.inr ⟨A,.inl ⟨y,rfl,rfl⟩⟩⟩⟩
 have y:S.V.m≠0:=λq=>M (sgD_nz.2 q);refine zkk (a5 (zc λ_ Y=>?_));refine CW.bZ 12 rfl cJ λc8 U f i=>?_;have a:=a.ta i;have h:=h.q5 i;have c:=c.q5 i;have d:=d.q5 i;have t:=h;refine wh 0 rfl f (eM rfl) (wh 1 rfl f (eP rfl) (wh 2 rfl f (eF rfl) (wh 3 rfl f (λ_ o=>Ev.fQ rfl rfl (t.q5 o) rfl rfl) ?_)))
 try simp only[oL]
 refine wh 4 rfl f (eM rfl) (wh 6 rfl f (eM rfl) ?_);refine WH.k6 5 rfl oR hasF78 rfl rfl (ajq b S _ ⟨rv,rq,h,c,d⟩ ⟨I,H,G,F,D,C⟩) λv w6 k=>?_;obtain ⟨rfl,g⟩:=k;have a:=a.ta g;have c:=c.q5 g;have f:=f.trans g;refine ⟨f,?_⟩;refine WH.k6 7 rfl oR hasF101 rfl rfl (mOf_spec _ _ _ _ S.fin mode _ c (b2.q5 a) (aJ p)) λv w7 k=>?_;obtain ⟨⟨xb,xe,rfl,hR⟩,g⟩:=k;rw[g6] at hR;have a:=a.ta g;have f:=f.trans g;refine ⟨f,?_⟩;refine wh 8 rfl f (eX rfl rfl) (wh 9 rfl f (eX rfl rfl) (wh 10 rfl f (eA rfl) (wh 11 rfl f (eA rfl) ?_)));refine WH.done oR (U _ _ _ ?_);refine Y ?_;refine zr (zr2 rfl rfl rfl ?_);refine ⟨⟨_,_,rfl,?_⟩,a⟩;refine .inr ⟨B,.inr ⟨hv,.inr ⟨A,.inr ⟨y,of_quot p y c6 (by unfold Sh.fin at *;omega) (by unfold Sh.fin;omega) hR⟩⟩⟩⟩
theorem dcq(b:Nat)(S:Sh)(x:Nat)(w:World)(R:ShM 91 w b S)(m:S.wf)(Q:GW w):Ret Tryz.prog 102 [.pointer (some ⟨b,0,none⟩),.float .f64 x] w λu w'=>u = .tuple [.float .f64 (bvq S x).1,.int .i64 (bvq S x).2].toArray/\Chg [] w w':=by
 obtain ⟨J,M,I,z,A⟩:=R;obtain ⟨y,D,F,G,H⟩:=m;obtain ⟨t,r,q,p,o,n⟩:=y;have a:=crf w;have O:=Q;refine zE2 Tryz.func102 rfl ?_;refine Sr λ_ l=>za rfl (za rfl (zz (l (zc λ_ k=>CW.block (Sr λ_ j=>zm rfl (zP rfl (zf rfl (zf rfl (zl I rfl rfl (zq rfl rfl (za rfl (zz (j ?_)))))))))))));refine zy rfl ?_ ?_<;>intro d<;>try simp only[qs] at d
 ·have g:S.s.al=0:=by have:=d;omega
  refine Sr λ_ i=>za rfl (za rfl (zz (i ?_)));refine zr (zr2 rfl rfl rfl ?_);refine ⟨?_,a⟩;rw[show bvq S x=(0,3) from if_pos g]
 have g : ¬S.s.al=0:=by have:=d;omega
 refine Sr λ_ h=>zm rfl ?_;refine WL.call hasF47 rfl rfl (arq b S _ ⟨J,M,I,z,A⟩ ⟨t,r,q,p,o,n⟩) λv V C=>?_;obtain ⟨rfl,T⟩:=C;have a:=a.ta T;refine zT rfl (za rfl (zz (h ?_)));refine zy rfl ?_ ?_<;>intro c<;>try simp only[qs] at c
 ·have B : ¬S.some:=by simpa using c
  refine Sr λ_ f=>?_;refine WL.call hasF77 rfl rfl (ccx _) λv U C=>?_;obtain ⟨rfl,rfl⟩:=C;refine za rfl (za rfl (zz (f ?_)));refine zr (zr2 rfl rfl rfl ?_);refine ⟨?_,a⟩;rw[show bvq S x=(9221120237041090560,0) from (if_neg g).trans (if_pos B)]
 have B : ¬¬S.some:=by simpa using c
 refine zkk (k (Sr λ_ e=>zm rfl (za rfl (za rfl (zz (e ?_))))));refine zr (zr2 rfl rfl rfl ?_);refine ⟨?_,a⟩;rw[show bvq S x=(x,0) from (if_neg g).trans (if_neg B)]
theorem Least_spec(b:Nat)(S:Sh)(w:World)(A:ShM 91 w b S)(i:S.wf)(z:GW w):Ret Tryz.prog 34 [.pointer (some ⟨b,0,none⟩)] w λu w'=>u = .tuple [.float .f64 (bvq S S.lo).1,.int .i64 (bvq S S.lo).2].toArray/\Chg [] w w':=by
 obtain ⟨x,y,t,r,s⟩:=A;obtain ⟨p,c,d,e,f⟩:=i;obtain ⟨o,n,m,l,k,j⟩:=p;have a:=crf w;have q:=z;refine zE1 Tryz.func34 rfl ?_;refine Sr λ_ h=>za rfl (za rfl (zz (h (Sr λ_ g=>zm rfl (zm rfl (zP rfl (zf rfl (zl t rfl rfl ?_))))))));refine WL.call hasF102 rfl rfl (dcq b S S.lo _ ⟨x,y,t,r,s⟩ ⟨⟨o,n,m,l,k,j⟩,c,d,e,f⟩ (q.q5 a)) λv D C=>?_;obtain ⟨rfl,B⟩:=C;have a:=a.ta B;refine zx rfl rfl (zx rfl rfl (za rfl (za rfl (zz (g ?_)))));refine zr (zr2 rfl rfl rfl ?_);exact ⟨rfl,a⟩
theorem Most_spec(b:Nat)(S:Sh)(w:World)(A:ShM 91 w b S)(i:S.wf)(z:GW w):Ret Tryz.prog 35 [.pointer (some ⟨b,0,none⟩)] w λu w'=>u = .tuple [.float .f64 (bvq S S.hi).1,.int .i64 (bvq S S.hi).2].toArray/\Chg [] w w':=by
 obtain ⟨x,y,t,r,s⟩:=A;obtain ⟨p,c,d,e,f⟩:=i;obtain ⟨o,n,m,l,k,j⟩:=p;have a:=crf w;have q:=z;refine zE1 Tryz.func35 rfl ?_;refine Sr λ_ h=>za rfl (za rfl (zz (h (Sr λ_ g=>zm rfl (zm rfl (zP rfl (zf rfl (zl t rfl rfl ?_))))))));refine WL.call hasF102 rfl rfl (dcq b S S.hi _ ⟨x,y,t,r,s⟩ ⟨⟨o,n,m,l,k,j⟩,c,d,e,f⟩ (q.q5 a)) λv D C=>?_;obtain ⟨rfl,B⟩:=C;have a:=a.ta B;refine zx rfl rfl (zx rfl rfl (za rfl (za rfl (zz (g ?_)))));refine zr (zr2 rfl rfl rfl ?_);exact ⟨rfl,a⟩
def accD(x y:Dy):Nat->Dy
  | 0=>cZ 1
  | 1=>(fJ (cZ 1) x).getD Dy.zero
  | _=>(fJ ((fJ (cZ 1) x).getD Dy.zero) y).getD Dy.zero
def timD(x y:Dy):Dy:=accD x y 2
theorem mQ{x y d:Dy}(h:fJ x y = .some d):d.ok:=by
  unfold fJ at h;split at h
  · cases h
  · exact iJ h
theorem c7j(x y:Dy)(i:Nat):(accD x y i).ok:=by
  match i with
  | 0=>exact wZ oD
  | 1=>exact tX λd h=>mQ h
  | (_+2)=>exact tX λd h=>mQ h
theorem sel_nu{w:World}{x y b:Dy}{d c a:Value}(h:(b=x/\a=d)\/(b=y/\a=c))(f:NU w d (wd x.m))(e:NU w c (wd y.m)):NU w a (wd b.m):=by
  rcases h with ⟨rfl,rfl⟩|⟨rfl,rfl⟩
  · exact f
  · exact e
structure KTm(b b2 b3:Nat)(x y:Dy)(rx ry:Value)(w0:World)(i:Nat)(w:World):Prop where
  hi:i<=2
  hB:BK w b 89 [.bool x.neg,rx,.int .i64 x.e,.bool y.neg,ry,.int .i64 y.e]
  h2:BK w b2 89 [.bool false,.slice none 0 0,.int .i64 0]
  h3 : ∃ r,BK w b3 89 [.bool (accD x y i).neg,r,.int .i64 (accD x y i).e]/\NU w r (wd (accD x y i).m)
  hx:NU w rx (wd x.m)
  hy:NU w ry (wd y.m)
  ch:Chg [] w0 w
theorem mtimes_spec(b:Nat)(x y:Dy)(R Q:Value)(w:World)(l:BK w b 89 [.bool x.neg,R,.int .i64 x.e,.bool y.neg,Q,.int .i64 y.e])(g:NU w R (wd x.m))(f:NU w Q (wd y.m))(a3:x.ok)(a2:y.ok)(hg:GW w):Ret Tryz.prog 219 [.slice (some ⟨b,0,none⟩) 2 2] w λu w'=>DY w' u (timD x y)/\Chg [] w w':=by
 have a:=crf w;have a8:=hg;refine zE1 Tryz.func219 rfl ?_;refine Sr λ_ b9=>?_;refine zAh rfl rfl a λb2 d6 c A d2 a6 a=>?_;have g:=g.q5 A;have f:=f.q5 A;have c2:b≠b2:=by have:=l.lt;omega
 have l:=l.q5 A;refine zz (b9 (Sr λ_ b8=>?_));refine WL.call hasF144 rfl rfl (bcx 1 _ (a8.q5 a) oD) λv w1 h'=>?_;obtain ⟨⟨r1,rfl,B⟩,t⟩:=h';have a:=a.ta t;have l:=l.q5 t;have c:=c.k0 t;have g:=g.q5 t;have f:=f.q5 t;refine zAh rfl rfl a λb3 d5 d o a7 a5 a=>?_;have g:=g.q5 o;have f:=f.q5 o;have B:=B.q5 o;have c1:b≠b3:=by have:=l.lt;omega
 have l:=l.q5 o;have b1:=zdd c.lt a7;have c:=c.k0 o;refine zss rfl rfl ao d rfl λd1 p k=>?_;(try simp only[qt] at p);have a:=a.s1 k;have l:=l.kq k;have c:=c.kq k;have g:=g.q8 d k an;have f:=f.q8 d k an;have B:=B.q8 d k an;have d:=p;refine zz (b8 (zc λ_ b7=>Sr λ_ b6=>zm rfl (zn rfl (zm rfl (zz (b6 (CW.block ?_)))))));refine CW.loop (S:=λi:Nat=>[(2,.pointer (some ⟨b2,0,none⟩)),(3,.pointer (some ⟨b3,0,none⟩)),(7,.slice (some ⟨b,0,none⟩) 2 2),(8,.int .i64 2),(9,.int .i64 (i:Int))]) (Inv:=KTm b b2 b3 x y R Q w) (mu:=λi=>2-i) (0) ?_ ?_ ?_
 ·exact ⟨by decide,l,c,⟨r1,d,B⟩,g,f,a⟩
 ·exact SLp
 rintro i wr ⟨hi,l,c,⟨r,d,q⟩,g,f,a⟩;refine Sr λ_ b4=>zL rfl rfl (zz (b4 (zc λ_ a0=>?_)));refine zy rfl ?_ ?_<;>intro c4<;>try simp only[qs] at c4
 ·obtain ⟨C,T,c3,D,F,a1⟩ : ∃ C T,(List.drop (0+((i:Nat):Int).toNat*3) [.bool x.neg,R,.int .i64 x.e,.bool y.neg,Q,.int .i64 y.e]).take 3=[.bool C.neg,T,.int .i64 C.e]/\((C=x/\T=R)\/(C=y/\T=Q))/\C.ok/\accD x y (i+1)=(fJ (accD x y i) C).getD Dy.zero:=by
   have M:i=0\/i=1:=by omega
   rcases M with rfl|rfl
   · exact ⟨x,R,rfl,.inl ⟨rfl,rfl⟩,a3,rfl⟩
   exact ⟨y,Q,rfl,.inr ⟨rfl,rfl⟩,a2,rfl⟩
  have G:=c7j x y i;have d9:=(sel_nu D g f).one;refine zkk (a0 (zc λ_ Z=>CW.block (Sr λ_ Y=>?_)));refine WL.ev (Ev.indexAddr rfl rfl oO oO) rfl ?_;refine WL.ev (Ev.fQ (cs:=[.bool C.neg,T,.int .i64 C.e]) rfl rfl l c3 rfl) rfl ?_;refine zAh rfl rfl a λb5 d4 s n H a4 a=>?_;have g:=g.q5 n;have f:=f.q5 n;have q:=q.q5 n;have c0:b≠b5:=by have:=l.lt;omega
  have l:=l.q5 n;have b0:=zdd c.lt H;have c:=c.k0 n;have a9:=zdd d.lt H;have d:=d.k0 n;refine zss rfl rfl ao s rfl λd0 I h=>?_;(try simp only[qt] at I);have a:=a.s1 h;have l:=l.kq h;have c:=c.kq h;have d:=d.kq h;have g:=g.q8 s h an;have f:=f.q8 s h an;have q:=q.q8 s h an;have s:=I;refine zz (Y ?_);refine zR λ_ V=>?_;refine zg d rfl (zg s rfl ?_);refine WL.call hasF71 rfl rfl (uQ _ _ _ _ _ _ _ _ _ q (sel_nu D g f) (a8.q5 a) (aJ G) (aJ F)) λv w2 h'=>?_;obtain ⟨hD,t⟩:=h';rw[jX G F] at hD;obtain ⟨rn,kn,rfl,O⟩:=hD.cells;have a:=a.ta t;have l:=l.q5 t;have c:=c.k0 t;have d:=d.k0 t;have g:=g.q5 t;have f:=f.q5 t;refine zm rfl (zx rfl rfl (zx rfl rfl ?_));refine zss rfl rfl ao d rfl λc9 p j=>?_;(try simp only[qt] at p);have a:=a.s1 j;have l:=l.kq j;have c:=c.kq j;have g:=g.q8 d j an;have f:=f.q8 d j an;have O:=O.q8 d j an;have d:=p;refine WL.nil (V _ _ _ (Z ?_));refine zS λ_ U=>?_;(first|refine zi rfl rfl ?_|refine zo rfl rfl ?_);refine zm rfl (zz (U ?_));refine ⟨rfl,i+1,?_,?_,?_⟩
  ·exact SLp
  ·exact ⟨by omega,l,c,⟨rn,by rw[a1];exact d,by rw[a1];exact O⟩,g,f,a⟩
  show 2-(i+1)<2-i;omega
 have M:i=2:=by omega
 subst M;refine CW.exit ?_;refine b7 (Sr λ_ X=>zg d rfl ?_);refine zss rfl rfl ao c rfl λc8 J z=>?_;(try simp only[qt] at J);have a:=a.s1 z;have q:=q.q8 c z an;have c:=J;refine zz (X ?_);refine zr (k8.qJ rfl (aX.cell rfl (c.fX rfl rfl)) ?_);exact ⟨⟨_,rfl,q⟩,a⟩
theorem DR.bij{w:World}{u:Value}{x:Option Dy}(h:DR w u x): ∃ (r:Value) (k:Int),u = .tuple [.agg [.bool (x.getD Dy.zero).neg,r,.int .i64 (x.getD Dy.zero).e].toArray,.int .i64 k].toArray/\NU w r (wd (x.getD Dy.zero).m)/\((k=0/\∃ d,x = .some d)\/(k=2/\x = .none)):=by
  rcases h with ⟨r,d,rfl,rfl,a⟩|⟨rfl,rfl⟩
  · exact ⟨r,0,rfl,a,.inl ⟨rfl,d,rfl⟩⟩
  · exact ⟨_,2,rfl,by rw[show (Option.none.getD Dy.zero).m=0 from rfl,eJ];exact NU.nil,.inr ⟨rfl,rfl⟩⟩
def crq(x y:Dy):Option Dy:=bgj xX (.some x) (cQ (!y.neg) y.m y.e)
def momR(n:Int)(V Q:Dy)(less mode:Int)(b:Nat)(e:Int):Prop:=
  (¬((0<=mode/\mode<=4)/\(less=0\/less=1)/\1<=n/\n<=1099511627776)/\b=0/\e=1)\/(((0<=mode/\mode<=4)/\(less=0\/less=1)/\1<=n/\n<=1099511627776)/\
    (((fJ (cZ n) Q = .none\/fJ V V = .none)/\b=0/\e=2)\/∃ x y,fJ (cZ n) Q = .some x/\fJ V V = .some y/\((crq x y = .none/\b=0/\e=2)\/∃ v,crq x y = .some v/\
      ((n<=less/\b=0/\e=3)\/(less<n/\buq v.neg (timD (cZ n) (cZ (n-less))).neg v.m (timD (cZ n) (cZ (n-less))).m v.e (timD (cZ n) (cZ (n-less))).e mode b e)))))
theorem momMay_spec(mode a:Int)(w:World):Ret Tryz.prog 143 [.int .i64 mode,.int .i64 a] w λu w'=>u = .bool (decide ((0<=mode/\mode<=4)/\(a=0\/a=1)))/\w=w':=by
 refine zE2 Tryz.func143 rfl ?_;refine Sr λ_ c=>za rfl (zz (c (Sr λ_ b=>zm rfl ?_)));refine WL.ev (Ev.geq rfl rfl) rfl ?_;refine zm rfl ?_;refine zb ?_ ?_<;>intro f<;>try simp only[qs] at f
 ·refine zw rfl (zm rfl (zw rfl (zQ rfl rfl (zt rfl rfl (zm rfl ?_)))));refine zb ?_ ?_<;>intro e<;>try simp only[qs] at e
  ·refine zw rfl (zm rfl (zw rfl (zq rfl rfl (zw rfl (zm rfl ?_)))));refine zb ?_ ?_<;>intro d<;>try simp only[qs] at d
   ·refine zv rfl (zv rfl (zw rfl (zt rfl rfl (zt rfl rfl (za rfl (zz (b ?_)))))));refine zr (zr1 rfl rfl ?_);refine ⟨congrArg Value.bool ?_,rfl⟩
    first|(simp_all;done)|(simp;omega)|(refine decide_eq_decide.2 ?_;omega)|(simp_all;omega)
   refine zw rfl (zm rfl (zw rfl (zq rfl rfl (zw rfl (ze rfl rfl (zt rfl rfl (za rfl (zz (b ?_)))))))));refine zr (zr1 rfl rfl ?_);refine ⟨congrArg Value.bool ?_,rfl⟩
   first|(simp_all;done)|(simp;omega)|(refine decide_eq_decide.2 ?_;omega)|(simp_all;omega)
  refine zv rfl (zv rfl (zv rfl (zu rfl (zu rfl (zv rfl (ze rfl rfl (za rfl (zz (b ?_)))))))));refine zr (zr1 rfl rfl ?_);refine ⟨congrArg Value.bool ?_,rfl⟩
  first|(simp_all;done)|(simp;omega)|(refine decide_eq_decide.2 ?_;omega)|(simp_all;omega)
 refine zv rfl (zv rfl (ze rfl rfl (zm rfl (zv rfl (zv rfl (zv rfl (zu rfl (zu rfl (zv rfl (ze rfl rfl (za rfl (zz (b ?_)))))))))))));refine zr (zr1 rfl rfl ?_);refine ⟨congrArg Value.bool ?_,rfl⟩
 first|(simp_all;done)|(simp;omega)|(refine decide_eq_decide.2 ?_;omega)|(simp_all;omega)
theorem by_spec(x:Dy)(G:Value)(n c:Int)(w:World)(b:NU w G (wd x.m))(a2:x.ok)(hn:1<=n/\n<=1099511627776)(hl:0<=c/\c<=1)(hg:GW w):Ret Tryz.prog 147 [.agg [.bool x.neg,G,.int .i64 x.e].toArray,.int .i64 n,.int .i64 c] w λu w'=>(∃ rd,u = .agg [.bool x.neg,G,.int .i64 x.e,.bool (timD (cZ n) (cZ (n-c))).neg,rd,.int .i64 (timD (cZ n) (cZ (n-c))).e].toArray/\NU w' rd (wd (timD (cZ n) (cZ (n-c))).m)/\NU w' G (wd x.m))/\Chg [] w w':=by
 have a:=crf w;have y:=hg;have a1:=b.one;refine zE3 Tryz.func147 rfl ?_;refine Sr λ_ M=>?_;refine zBh rfl rfl rfl a λb3 Y j C V B a=>?_;have b:=b.q5 C;refine WL.iQ (l:=[.bool false,.slice none 0 0,.int .i64 0,.bool false,.slice none 0 0,.int .i64 0]) rfl rfl λb6 X d o s=>?_;have A:=Nat.le_trans a.size s;have a:=a.ta o;have b:=b.q5 o;have H:=zdd j.lt s;have j:=j.k0 o;refine zz (M (zc λ_ J=>?_));refine CW.gX 10 11 rfl cJ λa0 I g p=>?_;have a:=a.ta p;have j:=j.k0 p;have d:=d.k0 p;have b:=b.q5 p;have z:=j;refine wk 0 rfl g (λ_ O=>Ev.oQ rfl rfl (z.q5 O) rfl) (wk 1 rfl g (eM rfl) (wk 3 rfl g (eM rfl) (wk 4 rfl g (eM rfl) (wk 5 rfl g (λ_ _=>Ev.dX rfl rfl oO) ?_))));refine WK.k6 2 rfl oR hasF144 rfl rfl (bcx n _ (y.q5 a) oO) λv w1 F=>?_;obtain ⟨⟨U,rfl,k⟩,i⟩:=F;have a4:=k.one;have a:=a.ta i;have d:=d.k0 i;have b:=b.q5 i;have g:=g.trans i;refine ⟨g,?_⟩;refine WK.k6 6 rfl oR hasF144 rfl rfl (bcx (n-c) _ (y.q5 a) oO) λv w2 F=>?_;obtain ⟨⟨T,rfl,q⟩,i⟩:=F;have a3:=q.one;have a:=a.ta i;have d:=d.k0 i;have b:=b.q5 i;have k:=k.q5 i;have g:=g.trans i;refine ⟨g,?_⟩;refine WK.buildSlice 7 (m:=2) (cs:=[.bool (cZ n).neg,U,.int .i64 (cZ n).e,.bool (cZ (n-c)).neg,T,.int .i64 (cZ (n-c)).e]) rfl oR oD oD rfl oR rfl λQ Z f=>?_;have g:=g.trans f.chg;refine ⟨g,?_⟩;have D:=f.at_;have a:=a.trans f.chg;have b:=b.q5 f.chg;have k:=k.q5 f.chg;have q:=q.q5 f.chg;have d:=d.q5 f.chg;refine WK.k6 8 rfl oR hasF219 rfl rfl (mtimes_spec Q (cZ n) (cZ (n-c)) U T _ D k q (wZ oO) (wZ oO) (y.q5 a)) λv w3 F=>?_;obtain ⟨⟨rd,rfl,r⟩,i⟩:=F;have a5:=r.one;have a:=a.ta i;have d:=d.k0 i;have b:=b.q5 i;have g:=g.trans i;refine ⟨g,?_⟩;refine wk 9 rfl g (λ_ _=>Ev.build (vs:=_) (cs:=[_,_,_,_,_,_]) rfl rfl) ?_;refine WK.nQ 10 rfl oR oR rfl rfl rfl ao d oS rfl λR t h=>?_;(try simp only[qt] at t);have a:=a.s1 h;have b:=b.q8 d h an;have r:=r.q8 d h an;have d:=t;refine WK.done oR (I _ _ _ ?_);refine J ?_;refine zr (k8.qJ rfl (aX.cell rfl (d.fX rfl rfl)) ?_);exact ⟨⟨rd,rfl,r,b⟩,a⟩
end
end Go.Proofs.YtomlallhlakhfaaGreatDoor