/- Part 3 of what the proof rests on. No condition. -/
import Derived.Test.YtomlallhlakhfaaGreatDoorZd2
import GoSem.Core.Float
set_option linter.unusedVariables false
set_option linter.unusedSimpArgs false
set_option maxRecDepth 100000
set_option maxHeartbeats 4000000
namespace Go.Proofs.YtomlallhlakhfaaGreatDoor
section
open Go Sx Wd
theorem daq{m k:Nat}(a:m≠0):(m=0\/(k:Int)<=262144-(bl m:Int))↔(wd (m*2^k)).length<=8192:=by
  have h:=bbj (n:=m*2^k) (k:=8192)
  rw[adq a] at h
  omega
theorem xQ{x y:Dy}{p q:Nat}(d:x.m≠0)(c:y.m≠0)(b:p=x.m*2^(x.e-min x.e y.e).toNat)(a:q=y.m*2^(y.e-min x.e y.e).toNat):
    xX x y=if 8192<(wd p).length\/8192<(wd q).length then none else if x.neg=y.neg then cQ x.neg (p+q) (min x.e y.e) else if p<q then cQ y.neg (q-p) (min x.e y.e) else cQ x.neg (p-q) (min x.e y.e):=by
  subst b;subst a
  unfold xX
  rw[if_neg d,if_neg c]
theorem bpq(na nb:Bool)(va vb:Value)(la lb:List Nat)(ea eb:Int)(w:World)(ha:NU w va la)(hb:NU w vb lb)(hg:GW w)(o0 : -9223372036854775808<=ea/\ea<=9223372036854775807)(n9 : -9223372036854775808<=eb/\eb<=9223372036854775807):Ret Tryz.prog 98 [.agg [.bool na,va,.int .i64 ea].toArray,.agg [.bool nb,vb,.int .i64 eb].toArray] w λu w'=>DR w' u (bgj xX (cQ na (val la) ea) (cQ nb (val lb) eb))/\Chg [] w w':=by
 have a:=crf w;have s9:=ha.one;have s8:=hb.one;refine zE2 Tryz.func98 rfl ?_;refine Sr λ_ n0=>?_;refine WL.cgj rfl rfl rfl λb2 r7 a3 c9 l2=>?_;have l1:=Nat.le_trans a.size l2;have a:=a.trans c9;have ha:=ha.q5 c9;have hb:=hb.q5 c9;refine WL.cgj rfl rfl rfl λb3 r6 d8 a6 f2=>?_;have l0:=Nat.le_trans a.size f2;have a:=a.trans a6;have ha:=ha.q5 a6;have hb:=hb.q5 a6;have m1:=zdd a3.lt f2;have a3:=a3.k0 a6;refine WL.iQ (l:=[.bool false,.slice none 0 0,.int .i64 0]) rfl rfl λb4 r5 b U b9=>?_;have k5:=Nat.le_trans a.size b9;have a:=a.trans U;have ha:=ha.q5 U;have hb:=hb.q5 U;have m0:=zdd a3.lt b9;have a3:=a3.k0 U;have l9:=zdd d8.lt b9;have d8:=d8.k0 U;refine za rfl (zz (n0 (Sr λ_ i4=>zg a3 rfl (zg d8 rfl ?_))));refine WL.call hasF135 rfl rfl (dsx na nb va vb la lb ea eb _ ha hb (hg.q5 a) o0 n9) λv w1 J=>?_;obtain ⟨hB,l4⟩:=J;have a:=a.trans l4;have b:=b.k0 l4;rcases hB with ⟨k,j,r1,r2,t,s,rfl,i,g⟩|⟨Q,n1,v1,e1,n2,v2,e2,rfl,s7,s6⟩
 ·have f1:=iJ t;have f0:=iJ s;have t1:=f1.e;have t0:=f0.e;have k4:=f1.len;have k3:=f0.len;obtain ⟨⟨a1,c1,rfl,g4,n5⟩,o5,k4⟩:=i;have i:NU _ (.slice a1 (wd k.m).length c1) (wd k.m):=NU.acq n5 o5 k4 rfl g4;obtain ⟨⟨a2,c2,rfl,g3,n4⟩,o4,k3⟩:=g;have g:NU _ (.slice a2 (wd j.m).length c2) (wd j.m):=NU.acq n4 o4 k3 rfl g3;have s5:(wd k.m).length=0↔k.m=0:=by rw[List.length_eq_zero_iff,rZ]
  have s4:(wd j.m).length=0↔j.m=0:=by rw[List.length_eq_zero_iff,rZ]
  refine zm rfl (zx rfl rfl (zx rfl rfl (zx rfl rfl ?_)));refine WL.iQ (l:=[.bool false,.slice none 0 0,.int .i64 0]) rfl rfl λb6 m4 f C R=>?_;have b8:=Nat.le_trans a.size R;have a:=a.trans C;have i:=i.q5 C;have g:=g.q5 C;have d7:=zdd b.lt R;have b:=b.k0 C;refine WL.iQ (l:=[.bool false,.slice none 0 0,.int .i64 0]) rfl rfl λb7 m3 h n z=>?_;have b5:=Nat.le_trans a.size z;have a:=a.trans n;have i:=i.q5 n;have g:=g.q5 n;have d6:=zdd b.lt z;have b:=b.k0 n;have d5:=zdd f.lt z;have f:=f.k0 n;refine zss rfl rfl ao f rfl λq4 D B=>?_;(try simp only[qt] at D);have a:=a.s2 B;have b:=b.kq B;have h:=h.kq B;have i:=i.q8 f B an;have g:=g.q8 f B an;have f:=D;refine zss rfl rfl ao h rfl λq3 a7 A=>?_;(try simp only[qt] at a7);have a:=a.s2 A;have b:=b.kq A;have f:=f.kq A;have i:=i.q8 h A an;have g:=g.q8 h A an;have h:=a7;refine za rfl (zz (i4 (zc λ_ m9=>CW.block (Sr λ_ m8=>zm rfl (zN rfl rfl (za rfl (zz (m8 ?_))))))));refine CW.oX rfl ?_;refine Sr λ_ m7=>zf rfl (zl f rfl rfl (zn rfl (zq rfl rfl (za rfl (zz (m7 ?_))))));refine zy rfl ?_ ?_<;>intro o3<;>try simp only[qs] at o3
  ·have o:k.m=0:=by omega
   refine Sr λ_ k2=>zg h rfl ?_;refine zss rfl rfl ao b rfl λq2 c c8=>?_;(try simp only[qt] at c);have a:=a.s2 c8;have g:=g.q8 b c8 an;have b:=c;refine za rfl (zz (k2 ?_));refine zr (k8.gJ rfl (aX.cell rfl (b.fX rfl rfl)) (aX.tmp rfl) ?_);rw[t,s];exact ⟨.inl ⟨_,j,by show xX k j=_;unfold xX;rw[if_pos o],rfl,g⟩,a⟩
  have o:k.m≠0:=by omega
  refine Sr λ_ k1=>zf rfl (zl h rfl rfl (zn rfl (zq rfl rfl (za rfl (zz (k1 ?_))))));refine zy rfl ?_ ?_<;>intro o2<;>try simp only[qs] at o2
  ·have y:j.m=0:=by omega
   refine Sr λ_ i9=>zg f rfl ?_;refine zss rfl rfl ao b rfl λq1 c c7=>?_;(try simp only[qt] at c);have a:=a.s2 c7;have i:=i.q8 b c7 an;have b:=c;refine za rfl (zz (i9 ?_));refine zr (k8.gJ rfl (aX.cell rfl (b.fX rfl rfl)) (aX.tmp rfl) ?_);rw[t,s];exact ⟨.inl ⟨_,k,by show xX k j=_;unfold xX;rw[if_neg o,if_pos y],rfl,i⟩,a⟩
  have y:j.m≠0:=by omega
  refine zkk (m9 (Sr λ_ i8=>zf rfl (zl f rfl rfl (zf rfl (zl h rfl rfl ?_)))));refine WL.ev (Ev.minI rfl rfl) rfl ?_;refine za rfl (zz (i8 (Sr λ_ e9=>zf rfl (zl f rfl rfl (zf rfl (zl f rfl rfl (zm rfl ?_)))))));refine WL.ev (Ev.dX rfl rfl oO) rfl ?_;refine WL.call hasF167 rfl rfl (aqx _ _ _ _ i oO) λv w2 J=>?_;obtain ⟨d9,d4⟩:=J;rw[g6,show k.e-min k.e j.e=((k.e-min k.e j.e).toNat:Int) by omega,apq] at d9;obtain ⟨p,hp⟩ : ∃ p,p=k.m*2^(k.e-min k.e j.e).toNat:=⟨_,rfl⟩;rw[<- hp] at d9;have a:=a.trans d4;have b:=b.k0 d4;have f:=f.k0 d4;have h:=h.k0 d4;have g:=g.q5 d4;rw[daq o,<- hp] at d9;rcases d9 with ⟨⟨_,n7⟩,rp,rfl,x⟩|⟨n7,rfl⟩
  ·refine zm rfl (zx rfl rfl (zx rfl rfl (za rfl (za rfl (zz (e9 (Sr λ_ e8=>zf rfl (zl h rfl rfl (zf rfl (zl h rfl rfl (zm rfl ?_)))))))))));refine WL.ev (Ev.dX rfl rfl oO) rfl ?_;refine WL.call hasF167 rfl rfl (aqx _ _ _ _ g oO) λv w3 J=>?_;obtain ⟨X,Y⟩:=J;rw[g6,show j.e-min k.e j.e=((j.e-min k.e j.e).toNat:Int) by omega,apq] at X;obtain ⟨q,hq⟩ : ∃ q,q=j.m*2^(j.e-min k.e j.e).toNat:=⟨_,rfl⟩;rw[<- hq] at X;have a:=a.trans Y;have b:=b.k0 Y;have f:=f.k0 Y;have h:=h.k0 Y;have x:=x.q5 Y;rw[daq y,<- hq] at X;rcases X with ⟨⟨_,n6⟩,rq,rfl,G⟩|⟨n6,rfl⟩
   ·refine zm rfl (zx rfl rfl (zx rfl rfl (za rfl (za rfl (zz (e8 (zc λ_ e7=>CW.block (Sr λ_ i7=>zm rfl (zN rfl rfl (zm rfl (zw rfl (zm rfl (zw rfl (zN rfl rfl (ze rfl rfl (za rfl (zz (i7 ?_))))))))))))))))));refine CW.oX rfl ?_;refine Sr λ_ i6=>zf rfl (zl f rfl rfl (zf rfl (zl h rfl rfl ?_)));refine WL.ev (Ev.bbq rfl rfl) rfl ?_;refine za rfl (zz (i6 ?_));refine zy rfl ?_ ?_<;>intro g5<;>try simp only[qs] at g5
    ·have Z:k.neg=j.neg:=by simpa using g5
     refine zc λ_ e6=>?_;refine CW.gX 9 11 rfl cJ λr4 e0 hS c0=>?_;have a:=a.trans c0;have b:=b.k0 c0;have f:=f.k0 c0;have x:=x.q5 c0;have G:=G.q5 c0;have g9:=f;refine wk 0 rfl hS (eF rfl) (wk 1 rfl hS (λ_ n3=>Ev.load rfl rfl ((g9.q5 n3).at_ rfl)) (wk 2 rfl hS (eM rfl) (wk 3 rfl hS (eM rfl) (wk 5 rfl hS (eM rfl) ?_))));refine WK.k6 4 rfl oR hasF168 rfl rfl (dsum_spec _ _ _ _ _ x G oO oO) λv w4 J=>?_;obtain ⟨L,o6,f5,d3⟩:=J;rw[g6,g6] at f5;have a:=a.trans d3;have b:=b.k0 d3;have hS:=hS.trans d3;refine ⟨hS,?_⟩;refine WK.k6 6 rfl oR hasF133 rfl rfl (aax _ _ _ _ _ o6 (hg.q5 a) oO) λv w5 J=>?_;obtain ⟨l3,d0⟩:=J;have a:=a.trans d0;have b:=b.k0 d0;have hS:=hS.trans d0;refine ⟨hS,?_⟩;rcases l3 with ⟨r,d,T,rfl,F⟩|⟨T,rfl⟩
     ·refine wk 7 rfl hS (eX rfl rfl) (wk 8 rfl hS (eX rfl rfl) ?_);refine WK.nQ 9 rfl oR oR rfl rfl rfl ao b oS rfl λq0 c c6=>?_;(try simp only[qt] at c);have a:=a.s2 c6;have F:=F.q8 b c6 an;have b:=c;refine WK.after 10 rfl oR oR (Ev.assign rfl) rfl ?_;refine WK.done oR (e0 _ _ _ ?_);refine e6 ?_;refine zr (k8.gJ rfl (aX.cell rfl (b.fX rfl rfl)) (aX.tmp rfl) ?_);rw[t,s];exact ⟨.inl ⟨r,d,by rw[f5] at T;show xX k j=_;rw[xQ o y hp hq,if_neg oO,if_pos Z];exact T,rfl,F⟩,a⟩
     refine wk 7 rfl hS (eX rfl rfl) (wk 8 rfl hS (eX rfl rfl) ?_);refine WK.nQ 9 rfl oR oR rfl rfl rfl ao b oS rfl λp9 c g2=>?_;(try simp only[qt] at c);have a:=a.s2 g2;have b:=c;refine WK.after 10 rfl oR oR (Ev.assign rfl) rfl ?_;refine WK.done oR (e0 _ _ _ ?_);refine e6 ?_;refine zr (k8.gJ rfl (aX.cell rfl (b.fX rfl rfl)) (aX.tmp rfl) ?_);rw[t,s];exact ⟨.inr ⟨by rw[f5] at T;show xX k j=_;rw[xQ o y hp hq,if_neg oO,if_pos Z];exact T,rfl⟩,a⟩
    have Z:k.neg≠j.neg:=by simpa using g5
    refine Sr λ_ i5=>zm rfl (zm rfl ?_);refine WL.call hasF169 rfl rfl (dwq _ _ _ _ _ x G) λv w6 J=>?_;obtain ⟨rfl,M⟩:=J;rw[g6,g6];have a:=a.trans M;have b:=b.k0 M;have f:=f.k0 M;have h:=h.k0 M;have x:=x.q5 M;have G:=G.q5 M;refine zL rfl rfl (za rfl (zz (i5 ?_)));refine zy rfl ?_ ?_<;>intro a9<;>try simp only[qs] at a9
    ·have b0:p<q:=by
      apply Classical.byContradiction;intro hn;unfold sgn at a9;rw[if_neg hn] at a9;split at a9<;>omega
     refine zR λ_ h3=>?_;refine zg h rfl (zm rfl (zm rfl ?_));refine zss rfl rfl ao f rfl λp8 D O=>?_;(try simp only[qt] at D);have a:=a.s2 O;have b:=b.kq O;have x:=x.q8 f O an;have G:=G.q8 f O an;have f:=D;refine za rfl (za rfl ?_);refine WL.nil (h3 _ _ _ (e7 ?_));refine Sr λ_ i3=>zm rfl (zm rfl ?_);refine WL.call hasF170 rfl rfl (Sub_spec _ _ _ _ _ G x) λv w7 J=>?_;obtain ⟨V,H⟩:=J;rw[g6,g6] at V;rcases V with ⟨_,_,_,rs,rfl,h0⟩|⟨Q,_⟩|⟨_,Q,_⟩
     rotate_left
     · omega
     · omega
     have a:=a.trans H;have b:=b.k0 H;have f:=f.k0 H;refine zm rfl (zx rfl rfl (zx rfl rfl (za rfl (za rfl (zz (i3 (Sr λ_ e5=>zf rfl (zl f rfl rfl (zm rfl (zm rfl ?_))))))))));refine WL.call hasF133 rfl rfl (aax _ _ _ _ _ h0 (hg.q5 a) oO) λv w8 J=>?_;obtain ⟨a5,I⟩:=J;have a:=a.trans I;have b:=b.k0 I;rcases a5 with ⟨r,d,T,rfl,F⟩|⟨T,rfl⟩
     ·refine zx rfl rfl (zx rfl rfl ?_);refine zss rfl rfl ao b rfl λp7 c c5=>?_;(try simp only[qt] at c);have a:=a.s2 c5;have F:=F.q8 b c5 an;have b:=c;refine za rfl (zz (e5 ?_));refine zr (k8.gJ rfl (aX.cell rfl (b.fX rfl rfl)) (aX.tmp rfl) ?_);rw[t,s];exact ⟨.inl ⟨r,d,by rw[g6] at T;show xX k j=_;rw[xQ o y hp hq,if_neg oO,if_neg Z,if_pos b0];exact T,rfl,F⟩,a⟩
     refine zx rfl rfl (zx rfl rfl ?_);refine zss rfl rfl ao b rfl λp6 c g1=>?_;(try simp only[qt] at c);have a:=a.s2 g1;have b:=c;refine za rfl (zz (e5 ?_));refine zr (k8.gJ rfl (aX.cell rfl (b.fX rfl rfl)) (aX.tmp rfl) ?_);rw[t,s];exact ⟨.inr ⟨by rw[g6] at T;show xX k j=_;rw[xQ o y hp hq,if_neg oO,if_neg Z,if_pos b0];exact T,rfl⟩,a⟩
    have b0 : ¬p<q:=λhn=>by unfold sgn at a9;rw[if_pos hn] at a9;omega
    refine zkk (e7 (Sr λ_ i2=>zm rfl (zm rfl ?_)));refine WL.call hasF170 rfl rfl (Sub_spec _ _ _ _ _ x G) λv w9 J=>?_;obtain ⟨V,H⟩:=J;rw[g6,g6] at V;rcases V with ⟨_,_,_,rs,rfl,h0⟩|⟨Q,_⟩|⟨_,Q,_⟩
    rotate_left
    · omega
    · omega
    have a:=a.trans H;have b:=b.k0 H;have f:=f.k0 H;refine zm rfl (zx rfl rfl (zx rfl rfl (za rfl (za rfl (zz (i2 (Sr λ_ e4=>zf rfl (zl f rfl rfl (zm rfl (zm rfl ?_))))))))));refine WL.call hasF133 rfl rfl (aax _ _ _ _ _ h0 (hg.q5 a) oO) λv r9 J=>?_;obtain ⟨a5,I⟩:=J;have a:=a.trans I;have b:=b.k0 I;rcases a5 with ⟨r,d,T,rfl,F⟩|⟨T,rfl⟩
    ·refine zx rfl rfl (zx rfl rfl ?_);refine zss rfl rfl ao b rfl λp5 c c4=>?_;(try simp only[qt] at c);have a:=a.s2 c4;have F:=F.q8 b c4 an;have b:=c;refine za rfl (zz (e4 ?_));refine zr (k8.gJ rfl (aX.cell rfl (b.fX rfl rfl)) (aX.tmp rfl) ?_);rw[t,s];exact ⟨.inl ⟨r,d,by rw[g6] at T;show xX k j=_;rw[xQ o y hp hq,if_neg oO,if_neg Z,if_neg b0];exact T,rfl,F⟩,a⟩
    refine zx rfl rfl (zx rfl rfl ?_);refine zss rfl rfl ao b rfl λp4 c g0=>?_;(try simp only[qt] at c);have a:=a.s2 g0;have b:=c;refine za rfl (zz (e4 ?_));refine zr (k8.gJ rfl (aX.cell rfl (b.fX rfl rfl)) (aX.tmp rfl) ?_);rw[t,s];exact ⟨.inr ⟨by rw[g6] at T;show xX k j=_;rw[xQ o y hp hq,if_neg oO,if_neg Z,if_neg b0];exact T,rfl⟩,a⟩
   refine zm rfl (zx rfl rfl (zx rfl rfl (za rfl (za rfl (zz (e8 (zc λ_ r3=>CW.block (Sr λ_ i1=>zm rfl (zN rfl rfl (zm rfl (zw rfl (zm rfl (zw rfl (zN rfl rfl (ze rfl rfl (za rfl (zz (i1 ?_))))))))))))))))));refine CW.nZ rfl ?_;refine Sr λ_ i0=>?_;refine WL.ev (Ev.build (vs:=_) (cs:=[_,_,_]) rfl rfl) rfl ?_;refine zss rfl rfl ao b rfl λp3 c f9=>?_;(try simp only[qt] at c);have a:=a.s2 f9;have b:=c;refine za rfl (zz (i0 ?_));refine zr (k8.gJ rfl (aX.cell rfl (b.fX rfl rfl)) (aX.tmp rfl) ?_);rw[t,s];exact ⟨.inr ⟨by show xX k j=_;rw[xQ o y hp hq,if_pos oO],rfl⟩,a⟩
  refine zm rfl (zx rfl rfl (zx rfl rfl (za rfl (za rfl (zz (e9 (Sr λ_ e3=>zf rfl (zl h rfl rfl (zf rfl (zl h rfl rfl (zm rfl ?_)))))))))));refine WL.ev (Ev.dX rfl rfl oO) rfl ?_;refine WL.call hasF167 rfl rfl (aqx _ _ _ _ g oO) λv r8 J=>?_;obtain ⟨X,Y⟩:=J;rw[g6,show j.e-min k.e j.e=((j.e-min k.e j.e).toNat:Int) by omega,apq] at X;obtain ⟨q,hq⟩ : ∃ q,q=j.m*2^(j.e-min k.e j.e).toNat:=⟨_,rfl⟩;rw[<- hq] at X;have a:=a.trans Y;have b:=b.k0 Y;rcases X with ⟨_,rq,rfl,G⟩|⟨_,rfl⟩
  ·refine zm rfl (zx rfl rfl (zx rfl rfl (za rfl (za rfl (zz (e3 (zc λ_ r0=>CW.block (Sr λ_ h9=>zm rfl (zN rfl rfl (zm rfl (zv rfl (zv rfl (zt rfl rfl (za rfl (zz (h9 ?_))))))))))))))));refine CW.nZ rfl ?_;refine Sr λ_ h8=>?_;refine WL.ev (Ev.build (vs:=_) (cs:=[_,_,_]) rfl rfl) rfl ?_;refine zss rfl rfl ao b rfl λp2 c f8=>?_;(try simp only[qt] at c);have a:=a.s2 f8;have b:=c;refine za rfl (zz (h8 ?_));refine zr (k8.gJ rfl (aX.cell rfl (b.fX rfl rfl)) (aX.tmp rfl) ?_);rw[t,s];exact ⟨.inr ⟨by show xX k j=_;rw[xQ o y hp hq,if_pos oO],rfl⟩,a⟩
  refine zm rfl (zx rfl rfl (zx rfl rfl (za rfl (za rfl (zz (e3 (zc λ_ q7=>CW.block (Sr λ_ h7=>zm rfl (zN rfl rfl (zm rfl (zv rfl (zv rfl (zt rfl rfl (za rfl (zz (h7 ?_))))))))))))))));refine CW.nZ rfl ?_;refine Sr λ_ h6=>?_;refine WL.ev (Ev.build (vs:=_) (cs:=[_,_,_]) rfl rfl) rfl ?_;refine zss rfl rfl ao b rfl λp1 c f7=>?_;(try simp only[qt] at c);have a:=a.s2 f7;have b:=c;refine za rfl (zz (h6 ?_));refine zr (k8.gJ rfl (aX.cell rfl (b.fX rfl rfl)) (aX.tmp rfl) ?_);rw[t,s];exact ⟨.inr ⟨by show xX k j=_;rw[xQ o y hp hq,if_pos oO],rfl⟩,a⟩
 have hF:bgj xX (cQ na (val la) ea) (cQ nb (val lb) eb)=none:=by rcases Q with Q|Q<;>rw[Q]<;>first|rfl|exact alq
 refine zm rfl (zx rfl rfl (zx rfl rfl (zx rfl rfl ?_)));refine WL.iQ (l:=[.bool false,.slice none 0 0,.int .i64 0]) rfl rfl λb6 m4 f C R=>?_;have b8:=Nat.le_trans a.size R;have a:=a.trans C;have d7:=zdd b.lt R;have b:=b.k0 C;refine WL.iQ (l:=[.bool false,.slice none 0 0,.int .i64 0]) rfl rfl λb7 m3 h n z=>?_;have b5:=Nat.le_trans a.size z;have a:=a.trans n;have d6:=zdd b.lt z;have b:=b.k0 n;have d5:=zdd f.lt z;have f:=f.k0 n;refine zss rfl rfl ao f rfl λo9 D a0=>?_;(try simp only[qt] at D);have a:=a.s2 a0;have b:=b.kq a0;have h:=h.kq a0;refine zss rfl rfl ao h rfl λo8 a7 c3=>?_;(try simp only[qt] at a7);have a:=a.s2 c3;have b:=b.kq c3;refine za rfl (zz (i4 (zc λ_ q6=>CW.block (Sr λ_ h5=>zm rfl (zN rfl rfl (za rfl (zz (h5 ?_))))))));refine CW.nZ rfl ?_;refine Sr λ_ h4=>?_;refine WL.ev (Ev.build (vs:=_) (cs:=[_,_,_]) rfl rfl) rfl ?_;refine zm rfl ?_;refine zss rfl rfl ao b rfl λo7 c f6=>?_;(try simp only[qt] at c);have a:=a.s2 f6;have b:=c;refine za rfl (zz (h4 ?_));refine zr (k8.gJ rfl (aX.cell rfl (b.fX rfl rfl)) (aX.tmp rfl) ?_);rw[hF];exact ⟨.inr ⟨rfl,rfl⟩,a⟩
theorem cxq(na nb:Bool)(Z Y:Value)(la lb:List Nat)(J I:Int)(w:World)(o:NU w Z la)(n:NU w Y lb)(hg:GW w)(R : -9223372036854775808<=J/\J<=9223372036854775807)(Q : -9223372036854775808<=I/\I<=9223372036854775807):Ret Tryz.prog 145 [.agg [.bool na,Z,.int .i64 J].toArray,.agg [.bool nb,Y,.int .i64 I].toArray] w λu w'=>DR w' u (bgj xX (cQ na (val la) J) (cQ (!nb) (val lb) I))/\Chg [] w w':=by
 have a:=crf w;have a8:=o.one;have a7:=n.one;refine zE2 Tryz.func145 rfl ?_;refine Sr λ_ O=>?_;refine WL.cgj rfl rfl rfl λb2 a6 f m C=>?_;have B:=Nat.le_trans a.size C;have a:=a.trans m;have o:=o.q5 m;have n:=n.q5 m;refine WL.cgj rfl rfl rfl λb3 a5 e i p=>?_;have A:=Nat.le_trans a.size p;have a:=a.trans i;have o:=o.q5 i;have n:=n.q5 i;have H:=zdd f.lt p;have f:=f.k0 i;refine WL.iQ (l:=[.bool false,.slice none 0 0,.int .i64 0]) rfl rfl λb4 a4 c g j=>?_;have z:=Nat.le_trans a.size j;have a:=a.trans g;have o:=o.q5 g;have n:=n.q5 g;have G:=zdd f.lt j;have f:=f.k0 g;have F:=zdd e.lt j;have e:=e.k0 g;refine za rfl (zz (O (Sr λ_ M=>zf rfl (zl e rfl rfl (zT rfl (zf rfl ?_))))));refine WL.bJ rfl rfl o1 e oS rfl λX q b=>?_;(try simp only[qt] at q);have a:=a.s2 b;have f:=f.kq b;have c:=c.kq b;have o:=o.q8 e b an;have n:=n.q8 e b an;have e:=q;refine zz (M (Sr λ_ y=>zg f rfl (zg e rfl ?_)));refine WL.call hasF98 rfl rfl (bpq _ _ _ _ _ _ _ _ _ o n (hg.q5 a) R Q) λv w1 h'=>?_;obtain ⟨D,s⟩:=h';have a:=a.trans s;have c:=c.k0 s;rcases D with ⟨r,d,T,rfl,x⟩|⟨T,rfl⟩
 ·refine zx rfl rfl (zx rfl rfl ?_);refine zss rfl rfl ao c rfl λV h k=>?_;(try simp only[qt] at h);have a:=a.s2 k;have x:=x.q8 c k an;have c:=h;refine za rfl (zz (y ?_));refine zr (k8.gJ rfl (aX.cell rfl (c.fX rfl rfl)) (aX.tmp rfl) ?_);exact ⟨.inl ⟨r,d,T,rfl,x⟩,a⟩
 refine zx rfl rfl (zx rfl rfl ?_);refine zss rfl rfl ao c rfl λU h t=>?_;(try simp only[qt] at h);have a:=a.s2 t;have c:=h;refine za rfl (zz (y ?_));refine zr (k8.gJ rfl (aX.cell rfl (c.fX rfl rfl)) (aX.tmp rfl) ?_);exact ⟨.inr ⟨T,rfl⟩,a⟩
theorem uQ(na nb:Bool)(va vb:Value)(la lb:List Nat)(ea eb:Int)(w:World)(ha:NU w va la)(hb:NU w vb lb)(hg:GW w)(g3 : -9223372036854775808<=ea/\ea<=9223372036854775807)(g2 : -9223372036854775808<=eb/\eb<=9223372036854775807):Ret Tryz.prog 71 [.agg [.bool na,va,.int .i64 ea].toArray,.agg [.bool nb,vb,.int .i64 eb].toArray] w λu w'=>DR w' u (bgj fJ (cQ na (val la) ea) (cQ nb (val lb) eb))/\Chg [] w w':=by
 have a:=crf w;have i9:=ha.one;have i8:=hb.one;refine zE2 Tryz.func71 rfl ?_;refine Sr λ_ f8=>?_;refine WL.cgj rfl rfl rfl λb2 i3 x H d7=>?_;have d6:=Nat.le_trans a.size d7;have a:=a.trans H;have ha:=ha.q5 H;have hb:=hb.q5 H;refine WL.cgj rfl rfl rfl λb3 i2 T y Z=>?_;have d5:=Nat.le_trans a.size Z;have a:=a.trans y;have ha:=ha.q5 y;have hb:=hb.q5 y;have f1:=zdd x.lt Z;have x:=x.k0 y;refine WL.iQ (l:=[.bool false,.slice none 0 0,.int .i64 0]) rfl rfl λb4 i1 b s D=>?_;have d4:=Nat.le_trans a.size D;have a:=a.trans s;have ha:=ha.q5 s;have hb:=hb.q5 s;have f0:=zdd x.lt D;have x:=x.k0 s;have e9:=zdd T.lt D;have T:=T.k0 s;refine za rfl (zz (f8 (Sr λ_ c3=>zg x rfl (zg T rfl ?_))));refine WL.call hasF135 rfl rfl (dsx na nb va vb la lb ea eb _ ha hb (hg.q5 a) g3 g2) λv w1 h'=>?_;obtain ⟨hB,e3⟩:=h';have a:=a.trans e3;have b:=b.k0 e3;rcases hB with ⟨d1,d2,r1,r2,R,Q,rfl,h,g⟩|⟨I,n1,v1,e1,n2,v2,e2,rfl,i7,i6⟩
 ·have Y:=iJ R;have X:=iJ Q;have k2:=Y.e;have k1:=X.e;have d3:=Y.len;have d0:=X.len;obtain ⟨⟨a1,c1,rfl,a9,g0⟩,g5,d3⟩:=h;have h:NU _ (.slice a1 (wd d1.m).length c1) (wd d1.m):=NU.acq g0 g5 d3 rfl a9;obtain ⟨⟨a2,c2,rfl,a8,f9⟩,g4,d0⟩:=g;have g:NU _ (.slice a2 (wd d2.m).length c2) (wd d2.m):=NU.acq f9 g4 d0 rfl a8;have i5:(wd d1.m).length=0↔d1.m=0:=by rw[List.length_eq_zero_iff,rZ]
  have i4:(wd d2.m).length=0↔d2.m=0:=by rw[List.length_eq_zero_iff,rZ]
  refine zm rfl (zx rfl rfl (zx rfl rfl (zx rfl rfl ?_)));refine WL.iQ (l:=[.bool false,.slice none 0 0,.int .i64 0]) rfl rfl λb6 f3 c p q=>?_;have C:=Nat.le_trans a.size q;have a:=a.trans p;have h:=h.q5 p;have g:=g.q5 p;have O:=zdd b.lt q;have b:=b.k0 p;refine WL.iQ (l:=[.bool false,.slice none 0 0,.int .i64 0]) rfl rfl λb7 f2 i j k=>?_;have B:=Nat.le_trans a.size k;have a:=a.trans j;have h:=h.q5 j;have g:=g.q5 j;have M:=zdd b.lt k;have b:=b.k0 j;have J:=zdd c.lt k;have c:=c.k0 j;refine zss rfl rfl ao c rfl λh7 A o=>?_;(try simp only[qt] at A);have a:=a.s2 o;have b:=b.kq o;have i:=i.kq o;have h:=h.q8 c o an;have g:=g.q8 c o an;have c:=A;refine zss rfl rfl ao i rfl λh6 z n=>?_;(try simp only[qt] at z);have a:=a.s2 n;have b:=b.kq n;have c:=c.kq n;have h:=h.q8 i n an;have g:=g.q8 i n an;have i:=z;refine za rfl (zz (c3 (zc λ_ f7=>Sr λ_ f6=>zm rfl (zN rfl rfl (zz (f6 ?_))))));refine CW.oX rfl ?_;refine zkk (f7 (Sr λ_ c0=>zf rfl (zl c rfl rfl (zf rfl (zl i rfl rfl ?_)))));refine WL.call hasF136 rfl rfl (Mul_spec _ _ _ _ _ h g) λv w2 h'=>?_;obtain ⟨e0,U⟩:=h';rw[g6,g6] at e0;have a:=a.trans U;have b:=b.k0 U;have c:=c.k0 U;have i:=i.k0 U;rcases e0 with ⟨_,_,g1,rp,rfl,g9⟩|⟨g1,rfl⟩
  ·refine zm rfl (zx rfl rfl (zx rfl rfl (za rfl (za rfl (zz (c0 (zc λ_ c9=>Sr λ_ c8=>zm rfl (zN rfl rfl (zz (c8 ?_))))))))));refine CW.oX rfl ?_;refine zkk (c9 (Sr λ_ V=>zf rfl (zl c rfl rfl (zf rfl (zl i rfl rfl ?_)))));refine WL.ev (Ev.dmx rfl rfl) rfl ?_;refine zm rfl (zf rfl (zl c rfl rfl (zf rfl (zl i rfl rfl ?_))));(first|refine zi rfl rfl ?_|refine zo rfl rfl ?_);refine WL.call hasF133 rfl rfl (aax _ _ _ _ _ g9 (hg.q5 a) oO) λv w3 h'=>?_;obtain ⟨d9,a4⟩:=h';have a:=a.trans a4;have b:=b.k0 a4;rcases d9 with ⟨r,d,hd,rfl,b0⟩|⟨hd,rfl⟩
   ·refine zx rfl rfl (zx rfl rfl ?_);refine zss rfl rfl ao b rfl λh5 f G=>?_;(try simp only[qt] at f);have a:=a.s2 G;have b0:=b0.q8 b G an;have b:=f;refine za rfl (zz (V ?_));refine zr (k8.gJ rfl (aX.cell rfl (b.fX rfl rfl)) (aX.tmp rfl) ?_);rw[R,Q];exact ⟨.inl ⟨r,d,by rw[g6] at hd;show fJ d1 d2=_;unfold fJ;rw[if_neg oO];exact hd,rfl,b0⟩,a⟩
   refine zx rfl rfl (zx rfl rfl ?_);refine zss rfl rfl ao b rfl λh4 f a7=>?_;(try simp only[qt] at f);have a:=a.s2 a7;have b:=f;refine za rfl (zz (V ?_));refine zr (k8.gJ rfl (aX.cell rfl (b.fX rfl rfl)) (aX.tmp rfl) ?_);rw[R,Q];exact ⟨.inr ⟨by rw[g6] at hd;show fJ d1 d2=_;unfold fJ;rw[if_neg oO];exact hd,rfl⟩,a⟩
  refine zm rfl (zx rfl rfl (zx rfl rfl (za rfl (za rfl (zz (c0 (zc λ_ h9=>Sr λ_ c7=>zm rfl (zN rfl rfl (zz (c7 ?_))))))))));refine CW.nZ rfl ?_;refine Sr λ_ c6=>?_;refine WL.ev (Ev.build (vs:=_) (cs:=[_,_,_]) rfl rfl) rfl ?_;refine zm rfl ?_;refine zss rfl rfl ao b rfl λh3 f a6=>?_;(try simp only[qt] at f);have a:=a.s2 a6;have b:=f;refine za rfl (zz (c6 ?_));refine zr (k8.gJ rfl (aX.cell rfl (b.fX rfl rfl)) (aX.tmp rfl) ?_);rw[R,Q];exact ⟨.inr ⟨by show fJ d1 d2=_;unfold fJ;rw[if_pos oO],rfl⟩,a⟩
 have hF:bgj fJ (cQ na (val la) ea) (cQ nb (val lb) eb)=none:=by rcases I with I|I<;>rw[I]<;>first|rfl|exact alq
 refine zm rfl (zx rfl rfl (zx rfl rfl (zx rfl rfl ?_)));refine WL.iQ (l:=[.bool false,.slice none 0 0,.int .i64 0]) rfl rfl λb6 f3 c p q=>?_;have C:=Nat.le_trans a.size q;have a:=a.trans p;have O:=zdd b.lt q;have b:=b.k0 p;refine WL.iQ (l:=[.bool false,.slice none 0 0,.int .i64 0]) rfl rfl λb7 f2 i j k=>?_;have B:=Nat.le_trans a.size k;have a:=a.trans j;have M:=zdd b.lt k;have b:=b.k0 j;have J:=zdd c.lt k;have c:=c.k0 j;refine zss rfl rfl ao c rfl λh2 A t=>?_;(try simp only[qt] at A);have a:=a.s2 t;have b:=b.kq t;have i:=i.kq t;refine zss rfl rfl ao i rfl λh1 z F=>?_;(try simp only[qt] at z);have a:=a.s2 F;have b:=b.kq F;refine za rfl (zz (c3 (zc λ_ h8=>Sr λ_ c5=>zm rfl (zN rfl rfl (zz (c5 ?_))))));refine CW.nZ rfl ?_;refine Sr λ_ c4=>?_;refine WL.ev (Ev.build (vs:=_) (cs:=[_,_,_]) rfl rfl) rfl ?_;refine zm rfl ?_;refine zss rfl rfl ao b rfl λh0 f a5=>?_;(try simp only[qt] at f);have a:=a.s2 a5;have b:=f;refine za rfl (zz (c4 ?_));refine zr (k8.gJ rfl (aX.cell rfl (b.fX rfl rfl)) (aX.tmp rfl) ?_);rw[hF];exact ⟨.inr ⟨rfl,rfl⟩,a⟩
def sgD(neg:Bool)(n:Nat):Int:=if n=0 then 0 else if neg then -1 else 1
theorem ajj(s:Bool)(r:Value)(j:List Nat)(A:Int)(w:World)(i:NU w r j):Ret Tryz.prog 74 [.agg [.bool s,r,.int .i64 A].toArray] w λu w'=>u = .int .i64 (sgD s (val j))/\Chg [] w w':=by
 have a:=crf w;have x:=i.one;have y:=adj (n:=val j);refine zE1 Tryz.func74 rfl ?_;refine Sr λ_ p=>?_;refine WL.cgj rfl rfl rfl λC t h b g=>?_;have f:=Nat.le_trans a.size g;have a:=a.trans b;have i:=i.q5 b;refine za rfl (zz (p (zc λ_ o=>CW.block (Sr λ_ m=>zf rfl (zl h rfl rfl ?_)))));refine WL.call hasF139 rfl rfl (a3x _ _ _ i) λv B z=>?_;obtain ⟨rfl,rfl⟩:=z;refine zq rfl rfl (za rfl (zz (m ?_)));refine zy rfl ?_ ?_<;>intro q<;>try simp only[qs] at q
 ·refine Sr λ_ l=>za rfl (zz (l ?_));refine zr (zr1 rfl rfl ?_);unfold sgD;rw[if_pos oO];exact ⟨rfl,a⟩
 refine Sr λ_ k=>zf rfl (zl h rfl rfl (za rfl (zz (k ?_))));refine zy rfl ?_ ?_<;>intro c<;>try simp only[qs] at c
 ·refine Sr λ_ e=>za rfl (zz (e ?_));refine zr (zr1 rfl rfl ?_);unfold sgD;rw[if_neg oO,if_pos c];exact ⟨rfl,a⟩
 refine zkk (o (Sr λ_ d=>za rfl (zz (d ?_))));refine zr (zr1 rfl rfl ?_);unfold sgD;rw[if_neg oO,if_neg (by rw[c];decide)];exact ⟨rfl,a⟩
def ccq(mode:Int)(neg:Bool)(n:Nat)(half only:Bool):Bool:=if mode=0 then (half&&(!only||decide (n%2=1))) else if mode=4 then half else if mode=2 then !neg else if mode=3 then neg else false
theorem away_spec(mode:Int)(neg:Bool)(n:Nat)(half only:Bool)(w:World)(x:n<18446744073709551616):Ret Tryz.prog 216 [.int .i64 mode,.bool neg,.int .u64 (n:Int),.bool half,.bool only] w λu w'=>u = .bool (ccq mode neg n half only)/\w=w':=by
 refine zE5 Tryz.func216 rfl ?_;refine Sr λ_ q=>za rfl (zz (q (zc λ_ p=>Sr λ_ o=>zm rfl (zz (o (CW.block (Sr λ_ m=>zq rfl rfl (za rfl (zz (m ?_))))))))));refine zy rfl ?_ ?_<;>intro v<;>try simp only[qs] at v
 ·refine Sr λ_ c=>zm rfl (zm rfl ?_);refine zb ?_ ?_<;>intro a<;>try simp only[qs] at a
  ·refine zw rfl (zm rfl (zw rfl (zT rfl (zw rfl (zm rfl ?_)))));refine zb ?_ ?_<;>intro d<;>try simp only[qs] at d
   ·refine zv rfl (zv rfl (zv rfl (zw rfl (zt rfl rfl (zt rfl rfl (za rfl (zz (c ?_))))))));refine zr (zr1 rfl rfl ?_);have l:mode=0:=by omega
    refine ⟨?_,rfl⟩;unfold ccq;rw[if_pos l,a,d];rfl
   refine zw rfl (zm rfl (zw rfl ?_));refine WL.ev (Ev.andU (b:=1) rfl rfl rfl (by simp only[IntKind.bits];omega) (by simp only[IntKind.bits];omega)) rfl ?_;rw[Nat.and_one_is_mod];refine zw rfl (zq rfl rfl (zw rfl (ze rfl rfl (zt rfl rfl (za rfl (zz (c ?_)))))));refine zr (zr1 rfl rfl ?_);have l:mode=0:=by omega
   refine ⟨?_,rfl⟩;unfold ccq;rw[if_pos l,a,d]
   congr 1
   simp only[Bool.true_and,Bool.not_true,Bool.false_or];refine decide_eq_decide.2 ?_;omega
  refine zv rfl (zv rfl (zv rfl (zu rfl (zu rfl (zu rfl (zv rfl (ze rfl rfl (za rfl (zz (c ?_))))))))));refine zr (zr1 rfl rfl ?_);have l:mode=0:=by omega
  refine ⟨?_,rfl⟩;unfold ccq;rw[if_pos l,a];rfl
 refine Sr λ_ k=>zq rfl rfl (za rfl (zz (k ?_)));refine zy rfl ?_ ?_<;>intro t<;>try simp only[qs] at t
 ·refine Sr λ_ j=>zm rfl (za rfl (zz (j ?_)));refine zr (zr1 rfl rfl ?_);refine ⟨?_,rfl⟩;unfold ccq;rw[if_neg oO,if_pos oO]
 refine Sr λ_ i=>zq rfl rfl (za rfl (zz (i ?_)));refine zy rfl ?_ ?_<;>intro s<;>try simp only[qs] at s
 ·refine Sr λ_ h=>zm rfl (zT rfl (za rfl (zz (h ?_))));refine zr (zr1 rfl rfl ?_);refine ⟨?_,rfl⟩;unfold ccq;rw[if_neg oO,if_neg oO,if_pos oO]
 refine Sr λ_ g=>zq rfl rfl (za rfl (zz (g ?_)));refine zy rfl ?_ ?_<;>intro r<;>try simp only[qs] at r
 ·refine Sr λ_ f=>zm rfl (za rfl (zz (f ?_)));refine zr (zr1 rfl rfl ?_);refine ⟨?_,rfl⟩;unfold ccq;rw[if_neg oO,if_neg oO,if_neg oO,if_pos oO]
 refine zkk (p (Sr λ_ e=>za rfl (zz (e ?_))));refine zr (zr1 rfl rfl ?_);refine ⟨?_,rfl⟩;unfold ccq;rw[if_neg oO,if_neg oO,if_neg oO,if_neg oO]
theorem on_fits{m:Nat}{e ex:Int}{c:Nat}(d:m≠0)(a:max ((bl m:Int)+e-53) (-1074)=ex)(f:(bl m:Int)+e<=1024)(g:(c:Int)=e-ex):m*2^c<9007199254740992/\((ex+1074).toNat=0\/4503599627370496<=m*2^c)/\m*2^c+(ex+1074).toNat*4503599627370496<9218868437227405312:=by
  have h:=adq d c
  have b:m*2^c<9007199254740992:=uJ.1 (show bl (m*2^c)<=53 by omega)
  refine ⟨b,?_,by omega⟩
  by_cases hx:ex = -1074
  · left;omega
  · right
    exact caj.1 (show 52<bl (m*2^c) by omega)
theorem on_cuts{m:Nat}{e ex:Int}{c:Nat}(g:m≠0)(a:max ((bl m:Int)+e-53) (-1074)=ex)(d:(bl m:Int)+e<=1024)(f:(c:Int)=ex-e):m/2^c<9007199254740992/\((ex+1074).toNat=0\/4503599627370496<=m/2^c)/\m/2^c+(ex+1074).toNat*4503599627370496<9218868437227405312:=by
  have b:m/2^c<9007199254740992:=by
    rw[Nat.div_lt_iff_lt_mul (Nat.two_pow_pos c),show (9007199254740992:Nat)=2^53 by decide,<- Nat.pow_add]
    exact uJ.1 oO
  refine ⟨b,?_,by omega⟩
  by_cases hx:ex = -1074
  · left;omega
  · right
    rw[Nat.le_div_iff_mul_le (Nat.two_pow_pos c),show (4503599627370496:Nat)=2^52 by decide,<- Nat.pow_add]
    exact caj.1 oO
theorem beyond_spec(neg:Bool)(mode:Int)(w:World):Ret Tryz.prog 214 [.agg [.int .i64 53,.int .i64 (-1074),.int .u64 9218868437227405312].toArray,.bool neg,.int .i64 mode] w λu w'=>u = .int .u64 (((if mode=1\/(mode=2/\neg=true)\/(mode=3/\neg=false) then 9218868437227405311 else 9218868437227405312):Nat):Int)/\Chg [] w w':=by
 have d:=crf w;refine zE3 Tryz.func214 rfl ?_;refine Sr λ_ m=>?_;refine WL.cgj rfl rfl rfl λt s i h g=>?_;have f:=Nat.le_trans d.size g;have d:=d.trans h;refine za rfl (zz (m (zc λ_ l=>?_)));refine CW.oJ 23 (decide (mode=1\/(mode=2/\neg=true)\/(mode=3/\neg=false))) ?_ ?_
 ·refine zS λ_ c=>zm rfl (zq rfl rfl (zm rfl ?_));refine zb ?_ ?_<;>intro r<;>try simp only[qs] at r
  ·refine zv rfl (zv rfl (zv rfl (zu rfl (zv rfl (zt rfl rfl (zm rfl (zv rfl (zv rfl (zv rfl (zu rfl (zu rfl (zv rfl (zt rfl rfl (zz (c ?_)))))))))))))));refine ⟨rfl,rfl,q9.g7 rfl ?_ ?_⟩
   ·first|(simp;omega)|(cases neg<;>simp_all<;>omega)|(refine decide_eq_decide.2 ?_;omega)|(cases neg<;>simp_all)
   exact SMg
  refine zw rfl (zm rfl (zw rfl (zq rfl rfl (zw rfl (zm rfl ?_)))));refine zb ?_ ?_<;>intro q<;>try simp only[qs] at q
  ·refine zw rfl (zm rfl (zw rfl (zt rfl rfl (ze rfl rfl (zm rfl ?_)))));refine zb ?_ ?_<;>intro p<;>try simp only[qs] at p
   ·refine zv rfl (zv rfl (zv rfl (zu rfl (zu rfl (zv rfl (zt rfl rfl (zz (c ?_))))))));refine ⟨rfl,rfl,q9.g7 rfl ?_ ?_⟩
    ·first|(simp;omega)|(cases neg<;>simp_all<;>omega)|(refine decide_eq_decide.2 ?_;omega)|(cases neg<;>simp_all)
    exact SMg
   refine zw rfl (zm rfl (zw rfl (zq rfl rfl (zw rfl (zm rfl ?_)))));refine zb ?_ ?_<;>intro o<;>try simp only[qs] at o
   ·refine zw rfl (zm rfl (zw rfl (zT rfl (zw rfl (zt rfl rfl (ze rfl rfl (zz (c ?_))))))));refine ⟨rfl,rfl,q9.g7 rfl ?_ ?_⟩
    ·first|(simp;omega)|(cases neg<;>simp_all<;>omega)|(refine decide_eq_decide.2 ?_;omega)|(cases neg<;>simp_all)
    exact SMg
   refine zv rfl (zv rfl (zw rfl (ze rfl rfl (ze rfl rfl (zz (c ?_))))));refine ⟨rfl,rfl,q9.g7 rfl ?_ ?_⟩
   ·first|(simp;omega)|(cases neg<;>simp_all<;>omega)|(refine decide_eq_decide.2 ?_;omega)|(cases neg<;>simp_all)
   exact SMg
  refine zv rfl (zw rfl (ze rfl rfl (ze rfl rfl (zm rfl (zw rfl (zm rfl (zw rfl (zq rfl rfl (zw rfl (zm rfl ?_))))))))));refine zb ?_ ?_<;>intro n<;>try simp only[qs] at n
  ·refine zw rfl (zm rfl (zw rfl (zT rfl (zw rfl (zt rfl rfl (ze rfl rfl (zz (c ?_))))))));refine ⟨rfl,rfl,q9.g7 rfl ?_ ?_⟩
   ·first|(simp;omega)|(cases neg<;>simp_all<;>omega)|(refine decide_eq_decide.2 ?_;omega)|(cases neg<;>simp_all)
   exact SMg
  refine zv rfl (zv rfl (zw rfl (ze rfl rfl (ze rfl rfl (zz (c ?_))))));refine ⟨rfl,rfl,q9.g7 rfl ?_ ?_⟩
  ·first|(simp;omega)|(cases neg<;>simp_all<;>omega)|(refine decide_eq_decide.2 ?_;omega)|(cases neg<;>simp_all)
  exact SMg
 refine zy rfl ?_ ?_<;>intro e<;>try simp only[qs] at e
 ·refine Sr λ_ k=>zf rfl (zl i rfl rfl ?_);refine WL.ev (Ev.bdx (a:=9218868437227405312) (b:=1) rfl rfl oO oO) rfl ?_
  refine za rfl (zz (k ?_));refine zr (zr1 rfl rfl ?_);rw[if_pos e];exact ⟨rfl,d⟩
 refine zkk (l (Sr λ_ j=>zf rfl (zl i rfl rfl (za rfl (zz (j ?_))))));refine zr (zr1 rfl rfl ?_);rw[if_neg e];exact ⟨rfl,d⟩
theorem on_spec(neg:Bool)(v:Value)(m:Nat)(e mode:Int)(w:World)(j:NU w v (wd m))(B:(Dy.mk neg m e).ok)(hm:0<=mode/\mode<=4):Ret Tryz.prog 142 [.agg [.int .i64 53,.int .i64 (-1074),.int .u64 9218868437227405312].toArray,.agg [.bool neg,v,.int .i64 e].toArray,.int .i64 mode] w λu w'=>∃ r:Nat,u = .int .u64 (r:Int)/\lZ (dyA m e) (dyB e) neg mode r/\r<=9218868437227405312/\Chg [] w w':=by
 have g:=crf w;have d5:=j.one;have he : -1048576<=e/\e<=1048576:=B.e;have hl:(wd m).length<=8192:=B.len;have d7:=adj (n:=m);have d8:bl m<=262144:=bbj.2 hl;refine zE3 Tryz.func142 rfl ?_;refine Sr λ_ c3=>?_;refine WL.cgj rfl rfl rfl λb3 d4 f z b0=>?_;have a9:=Nat.le_trans g.size b0;have g:=g.trans z;have j:=j.q5 z;refine WL.cgj rfl rfl rfl λb4 d3 h l y=>?_;have a8:=Nat.le_trans g.size y;have g:=g.trans l;have j:=j.q5 l;have b5:=zdd f.lt y;have f:=f.k0 l;refine za rfl (zz (c3 (Sr λ_ c2=>zf rfl (zl h rfl rfl ?_))));refine WL.call hasF139 rfl rfl (a3x _ _ _ j) λv w1 p=>?_;obtain ⟨rfl,rfl⟩:=p;rw[g6];refine za rfl (zz (c2 (zc λ_ c1=>Sr λ_ c0=>zm rfl (zq rfl rfl (zz (c0 ?_))))));refine zy rfl ?_ ?_<;>intro c7<;>try simp only[qs] at c7
 ·refine Sr λ_ b9=>za rfl (zz (b9 ?_));refine zr (zr1 rfl rfl ?_);have F:m=0:=by omega
  subst F;exact ⟨0,rfl,by unfold dyA;rw[Nat.zero_mul];exact cuq (yZ e) neg mode,by omega,g⟩
 have F:m≠0:=by omega
 refine zkk (c1 (zc λ_ a7=>?_));refine CW.jQ cJ oR λd1 O i=>?_;have g:=g.trans i;have f:=f.k0 i;have h:=h.k0 i;have j:=j.q5 i;refine yf rfl ?_;refine WS.ev (Ev.load rfl rfl (f.at_ rfl)) rfl ?_;refine yf rfl ?_;refine WS.ev (Ev.load rfl rfl (f.at_ rfl)) rfl ?_;refine yf rfl ?_;refine WS.ev (Ev.load rfl rfl (f.at_ rfl)) rfl ?_
 first|refine WS.ev (Ev.dX rfl rfl oO) rfl ?_|refine WS.ev (Ev.sub rfl rfl) rfl ?_
 refine WS.ev (Ev.atx (a:=9218868437227405312) (b:=52) rfl rfl oD) rfl ?_;refine WS.ev (Ev.dZ rfl rfl (tQ oO)) rfl ?_
 first|refine WS.ev (Ev.jZ rfl rfl oO) rfl ?_|refine WS.ev (Ev.add rfl rfl) rfl ?_
 first|refine WS.ev (Ev.dX rfl rfl oO) rfl ?_|refine WS.ev (Ev.sub rfl rfl) rfl ?_
 refine yf rfl ?_;refine WS.ev (Ev.load rfl rfl (f.at_ rfl)) rfl ?_
 first|refine WS.ev (Ev.jZ rfl rfl oO) rfl ?_|refine WS.ev (Ev.add rfl rfl) rfl ?_
 refine WS.ev (Ev.dX rfl rfl oO) rfl ?_;rw[show (-1074:Int)+((9218868437227405312/2^52:Nat):Int)-1+53-1=1024 by omega];refine ya rfl ?_;refine WS.nil (O _ _ ?_);refine a7 (Sr λ_ a6=>zm rfl (zf rfl (zl h rfl rfl ?_)));(first|refine zi rfl rfl ?_|refine zo rfl rfl ?_);refine zf rfl (zl f rfl rfl ?_)
 first|refine WL.ev (Ev.dX rfl rfl oO) rfl ?_|refine WL.ev (Ev.sub rfl rfl) rfl ?_
 refine zf rfl (zl f rfl rfl ?_);refine WL.ev (Ev.maxI rfl rfl) rfl ?_;generalize hex:max ((bl m:Int)+e-53) (-1074)=ex;refine za rfl (zz (a6 (zc λ_ a5=>Sr λ_ a4=>zm rfl (zf rfl (zl h rfl rfl ?_)))));(first|refine zi rfl rfl ?_|refine zo rfl rfl ?_);refine zm rfl (zG rfl rfl (zz (a4 ?_)));refine zy rfl ?_ ?_<;>intro c6<;>try simp only[qs] at c6
 ·refine Sr λ_ a3=>zg f rfl (zf rfl (zl h rfl rfl (zm rfl ?_)));refine WL.call hasF214 rfl rfl (beyond_spec neg mode _) λv w2 p=>?_
  obtain ⟨rfl,b2⟩:=p;have g:=g.trans b2;refine za rfl (zz (a3 ?_));refine zr (zr1 rfl rfl ?_);exact ⟨_,rfl,near_beyond F oO hm,by split<;>omega,g⟩
 refine zkk (a5 (Sr λ_ a2=>zm rfl (zf rfl (zl h rfl rfl ?_))))
 first|refine WL.ev (Ev.dX rfl rfl oO) rfl ?_|refine WL.ev (Ev.sub rfl rfl) rfl ?_
 refine za rfl (zz (a2 (Sr λ_ a1=>za rfl (zz (a1 (zc λ_ s=>Sr λ_ a0=>zm rfl (zQ rfl rfl (zz (a0 ?_)))))))));refine zy rfl ?_ ?_<;>intro c5<;>try simp only[qs] at c5
 ·obtain ⟨c,C⟩ : ∃ c:Nat,(c:Int)=e-ex:=⟨(e-ex).toNat,by omega⟩
  obtain ⟨f1,f2,f3⟩:=on_fits F hex oO C;have x:m<18446744073709551616:=Nat.lt_of_le_of_lt (Nat.le_mul_of_pos_right m (Nat.two_pow_pos c)) oO;have d:decide (0<ex-e)=false:=decide_eq_false oO;refine Sr λ_ Z=>zf rfl (zl h rfl rfl ?_);refine WL.call hasF215 rfl rfl (dvq _ _ _ j) λv w3 p=>?_;obtain ⟨rfl,rfl⟩:=p;rw[g6,if_pos x,if_pos x];refine zm rfl (zx rfl rfl (zx rfl rfl (za rfl (zz (Z ?_)))));refine zR λ_ M=>?_;refine zm rfl (zm rfl ?_);refine WL.ev (Ev.bnq rfl oO) rfl ?_;rw[show -(ex-e)=((c:Nat):Int) by omega];refine WL.ev (Ev.apx rfl rfl) rfl ?_;rw[Nat.mod_eq_of_lt (show m*2^c<18446744073709551616 by omega)];refine za rfl ?_;refine WL.nil (M _ _ _ (s ?_));refine zc λ_ Y=>zc λ_ X=>?_;refine CW.jQ cJ oR λd0 J i=>?_;have g:=g.trans i;have f:=f.k0 i;refine ym rfl ?_;refine WS.ev (Ev.gtr rfl rfl) rfl ?_;refine ym rfl ?_;refine WS.pass rfl rfl rfl (by rw[d];rfl) rfl ?_;refine WS.pass rfl rfl rfl (by rw[d];rfl) rfl ?_;refine WS.pass rfl rfl rfl (by rw[d];rfl) rfl ?_;refine WS.pass rfl rfl rfl (by rw[d];rfl) rfl ?_;refine WS.pass rfl rfl rfl (by rw[d];rfl) rfl ?_;refine WS.pass rfl rfl rfl (by rw[d];rfl) rfl ?_;refine WS.pass rfl rfl rfl (by rw[d];rfl) rfl ?_;refine WS.pass rfl rfl rfl (by rw[d];rfl) rfl ?_;refine WS.pass rfl rfl rfl (by rw[d];rfl) rfl ?_;refine WS.pass rfl rfl rfl (by rw[d];rfl) rfl ?_;refine WS.pass rfl rfl rfl (by rw[d];rfl) rfl ?_;refine WS.pass rfl rfl rfl (by rw[d];rfl) rfl ?_;refine WS.ev (Ev.anq rfl d rfl) rfl ?_;refine WS.nil (J _ _ ?_);refine X ?_;refine CW.oX rfl ?_;refine zkk (Y (Sr λ_ V=>zm rfl (zm rfl (zf rfl (zl f rfl rfl ?_)))))
  first|refine WL.ev (Ev.dX rfl rfl oO) rfl ?_|refine WL.ev (Ev.sub rfl rfl) rfl ?_
  refine WL.ev (Ev.conv rfl rfl) rfl ?_;rw[vJ,show (ex - -1074)%18446744073709551616=((((ex+1074).toNat):Nat):Int) by omega];refine zf rfl (zl f rfl rfl ?_);refine WL.ev (Ev.dX rfl rfl oO) rfl ?_;rw[show (53:Int)-1=((52:Nat):Int) by omega];refine WL.ev (Ev.apx (b:=52) rfl rfl) rfl ?_;rw[Nat.mod_eq_of_lt (show ((ex+1074).toNat)*2^52<18446744073709551616 by omega)];refine WL.ev (Ev.iX rfl rfl oO) rfl ?_;refine za rfl (zz (V ?_));refine zr (zr1 rfl rfl ?_);exact ⟨_,rfl,near_exact f1 f2 f3 rfl oO,by omega,g⟩
 obtain ⟨c,C⟩ : ∃ c:Nat,(c:Int)=ex-e:=⟨(ex-e).toNat,by omega⟩;obtain ⟨f1,f2,f3⟩:=on_cuts F hex oO C;have d:decide (0<ex-e)=true:=decide_eq_true oO;have t:m%2=1:=B.odd F;refine Sr λ_ U=>zf rfl (zl h rfl rfl (zm rfl ?_));refine WL.ev (Ev.bnq rfl oO) rfl ?_;refine WL.call hasF167 rfl rfl (aqx _ _ _ _ j oO) λv w4 p=>?_;obtain ⟨A,k⟩:=p;rw[g6,show -(ex-e) = -((c:Nat):Int) by omega,cej _ _ oO] at A;rcases A with ⟨_,rk,rfl,c8⟩|⟨c4,_⟩
 rotate_left
 · exfalso;exact c4 ⟨hl,.inr oO⟩
 have g:=g.trans k;have f:=f.k0 k;have h:=h.k0 k;have j:=j.q5 k;refine zm rfl (zx rfl rfl (zx rfl rfl (za rfl (za rfl (zz (U ?_))))));refine zR λ_ I=>?_;refine zm rfl ?_;refine WL.call hasF215 rfl rfl (dvq _ _ _ c8) λv w5 p=>?_;obtain ⟨rfl,rfl⟩:=p;rw[g6,if_pos oO,if_pos oO];refine zm rfl (zx rfl rfl (zx rfl rfl (za rfl ?_)));refine WL.nil (I _ _ _ (s ?_));refine zc λ_ q=>zc λ_ T=>?_;refine CW.jQ cJ oR λc9 H i=>?_;have g:=g.trans i;have f:=f.k0 i;have h:=h.k0 i;have j:=j.q5 i;refine ym rfl ?_;refine WS.ev (Ev.gtr rfl rfl) rfl ?_;refine ym rfl ?_;refine WS.want rfl rfl rfl (by rw[d];rfl) ?_;refine ym rfl ?_;refine WS.want rfl rfl rfl (by rw[d];rfl) ?_;refine yf rfl ?_;refine WS.want rfl rfl rfl (by rw[d];rfl) ?_;refine WS.ev (Ev.load rfl rfl (h.at_ rfl)) rfl ?_;refine WS.want rfl rfl rfl (by rw[d];rfl) ?_;refine ym rfl ?_;refine WS.want rfl rfl rfl (by rw[d];rfl) ?_;refine yf rfl ?_;refine WS.want rfl rfl rfl (by rw[d];rfl) ?_;refine WS.ev (Ev.load rfl rfl (h.at_ rfl)) rfl ?_;refine WS.want rfl rfl rfl (by rw[d];rfl) ?_;refine ym rfl ?_;refine WS.want rfl rfl rfl (by rw[d];rfl) ?_
 first|refine WS.ev (Ev.dX rfl rfl oO) rfl ?_|refine WS.ev (Ev.sub rfl rfl) rfl ?_
 refine WS.want rfl rfl rfl (by rw[d];rfl) ?_;refine WS.call hasF217 rfl rfl (Bit_spec _ _ _ _ j oO) ?_;refine WS.want rfl rfl rfl (by rw[d];rfl) ?_;refine ym rfl ?_;refine WS.want rfl rfl rfl (by rw[d];rfl) ?_;refine WS.ev (Ev.eql rfl rfl) rfl ?_;refine WS.want rfl rfl rfl (by rw[d];rfl) ?_;refine WS.call hasF216 rfl rfl (away_spec mode neg (m/2^c) _ _ _ oO) ?_;refine WS.ev (Ev.aex rfl d rfl) rfl ?_;refine WS.nil (H _ _ ?_);refine T ?_;refine zy rfl ?_ ?_<;>intro o<;>try simp only[qs] at o
 ·rw[g6,decide_eq_true (show (0:Int)<=ex-e-1 by omega),Bool.true_and,show (ex-e-1).toNat=c-1 by omega,show decide (ex-e=1)=decide (c=1) from decide_eq_decide.2 oO] at o
  have D:=o;refine zR λ_ G=>?_;refine zm rfl ?_;refine WL.ev (Ev.iX (b:=1) rfl rfl oO) rfl ?_;refine za rfl ?_;refine WL.nil (G _ _ _ (q ?_));refine Sr λ_ R=>zm rfl (zm rfl (zf rfl (zl f rfl rfl ?_)))
  first|refine WL.ev (Ev.dX rfl rfl oO) rfl ?_|refine WL.ev (Ev.sub rfl rfl) rfl ?_
  refine WL.ev (Ev.conv rfl rfl) rfl ?_;rw[vJ,show (ex - -1074)%18446744073709551616=((((ex+1074).toNat):Nat):Int) by omega];refine zf rfl (zl f rfl rfl ?_);refine WL.ev (Ev.dX rfl rfl oO) rfl ?_;rw[show (53:Int)-1=((52:Nat):Int) by omega];refine WL.ev (Ev.apx (b:=52) rfl rfl) rfl ?_;rw[Nat.mod_eq_of_lt (show ((ex+1074).toNat)*2^52<18446744073709551616 by omega)];refine WL.ev (Ev.iX rfl rfl oO) rfl ?_;refine za rfl (zz (R ?_));refine zr (zr1 rfl rfl ?_);have hN:=near_cut (e:=e) f1 f2 f3 (neg:=neg) (mode:=mode) (half:=m.testBit (c-1)) (up:=ccq mode neg (m/2^c) (m.testBit (c-1)) (decide (c=1))) oO t rfl oO rfl rfl;rw[D,if_pos rfl] at hN;exact ⟨_,rfl,by rw[show m/2^c+1+((ex+1074).toNat)*2^52=m/2^c+1+((ex+1074).toNat)*4503599627370496 by omega];exact hN,by omega,g⟩
 rw[g6,decide_eq_true (show (0:Int)<=ex-e-1 by omega),Bool.true_and,show (ex-e-1).toNat=c-1 by omega,show decide (ex-e=1)=decide (c=1) from decide_eq_decide.2 oO] at o;have D:=o;refine zkk (q (Sr λ_ Q=>zm rfl (zm rfl (zf rfl (zl f rfl rfl ?_)))))
 first|refine WL.ev (Ev.dX rfl rfl oO) rfl ?_|refine WL.ev (Ev.sub rfl rfl) rfl ?_
 refine WL.ev (Ev.conv rfl rfl) rfl ?_;rw[vJ,show (ex - -1074)%18446744073709551616=((((ex+1074).toNat):Nat):Int) by omega];refine zf rfl (zl f rfl rfl ?_);refine WL.ev (Ev.dX rfl rfl oO) rfl ?_;rw[show (53:Int)-1=((52:Nat):Int) by omega];refine WL.ev (Ev.apx (b:=52) rfl rfl) rfl ?_;rw[Nat.mod_eq_of_lt (show ((ex+1074).toNat)*2^52<18446744073709551616 by omega)];refine WL.ev (Ev.iX rfl rfl oO) rfl ?_;refine za rfl (zz (Q ?_));refine zr (zr1 rfl rfl ?_);have hN:=near_cut (e:=e) f1 f2 f3 (neg:=neg) (mode:=mode) (half:=m.testBit (c-1)) (up:=ccq mode neg (m/2^c) (m.testBit (c-1)) (decide (c=1))) oO t rfl oO rfl rfl;rw[D] at hN;exact ⟨_,rfl,hN,by omega,g⟩
theorem negF{x:Nat}(h:x<9223372036854775808):Op.negFloat .f64 x=x+9223372036854775808:=by
  show x ^^^ 2^63=_
  have a:x ^^^ 2^63=x||| 2^63:=by
    apply Nat.eq_of_testBit_eq
    intro j
    rw[Nat.testBit_xor,Nat.testBit_or,Nat.testBit_two_pow]
    by_cases hj:63=j
    · subst hj
      rw[Nat.testBit_lt_two_pow (show x<2^63 from h)]
      simp
    · simp[hj]
  have:=agj (x:=x) (y:=1) (s:=63) h
  rw[Nat.one_mul] at this
  rw[a,this]
theorem dtold_spec(Q:Bool)(O:Value)(R:List Nat)(z mode:Int)(w:World)(o:NU w O R)(X:GW w)(F : -9223372036854775808<=z/\z<=9223372036854775807):Ret Tryz.prog 141 [.agg [.bool Q,O,.int .i64 z].toArray,.int .i64 mode] w λu w'=>((¬(0<=mode/\mode<=4)/\u = .tuple [.agg [.bool false,.slice none 0 0,.int .i64 0].toArray,.int .i64 1].toArray)\/((0<=mode/\mode<=4)/\DR w' u (cQ Q (val R) z)))/\Chg [] w w':=by
 have a:=crf w;have V:=o.one;refine zE2 Tryz.func141 rfl ?_;refine Sr λ_ C=>?_;refine WL.cgj rfl rfl rfl λb2 U e i x=>?_;have t:=Nat.le_trans a.size x;have a:=a.trans i;have o:=o.q5 i;refine WL.iQ (l:=[.bool false,.slice none 0 0,.int .i64 0]) rfl rfl λb4 T c g h=>?_;have s:=Nat.le_trans a.size h;have a:=a.trans g;have o:=o.q5 g;have y:=zdd e.lt h;have e:=e.k0 g;refine za rfl (zz (C (zc λ_ B=>?_)));refine CW.oJ 11 (decide (mode<0\/4<mode)) ?_ ?_
 ·refine zS λ_ p=>zm rfl (zL rfl rfl (zm rfl ?_));refine zb ?_ ?_<;>intro D<;>try simp only[qs] at D
  ·refine zv rfl (zv rfl (zt rfl rfl (zz (p ?_))));refine ⟨rfl,rfl,q9.g7 rfl ?_ ?_⟩
   ·first|(simp;omega)|(refine decide_eq_decide.2 ?_;omega)
   exact SMg
  refine zw rfl (zm rfl (zw rfl (zG rfl rfl (ze rfl rfl (zz (p ?_))))));refine ⟨rfl,rfl,q9.g7 rfl ?_ ?_⟩
  ·first|(simp;omega)|(refine decide_eq_decide.2 ?_;omega)
  exact SMg
 refine zy rfl ?_ ?_<;>intro H<;>try simp only[qs] at H
 ·refine Sr λ_ A=>?_
  refine WL.ev (Ev.build (vs:=_) (cs:=[_,_,_]) rfl rfl) rfl ?_;refine zss rfl rfl ao c rfl λM b m=>?_;(try simp only[qt] at b);have a:=a.s2 m;have c:=b;refine za rfl (zz (A ?_));refine zr (k8.gJ rfl (aX.cell rfl (c.fX rfl rfl)) (aX.tmp rfl) ?_);exact ⟨.inl ⟨by omega,rfl⟩,a⟩
 refine zkk (B (Sr λ_ q=>zf rfl (zl e rfl rfl (zf rfl (zl e rfl rfl (zf rfl (zl e rfl rfl ?_)))))));refine WL.call hasF133 rfl rfl (aax _ _ _ _ _ o (X.q5 a) F) λv w1 Z=>?_;obtain ⟨Y,j⟩:=Z;have a:=a.trans j;have c:=c.k0 j;rcases Y with ⟨r,d,G,rfl,n⟩|⟨G,rfl⟩
 ·refine zx rfl rfl (zx rfl rfl ?_);refine zss rfl rfl ao c rfl λJ b f=>?_;(try simp only[qt] at b);have a:=a.s2 f;have n:=n.q8 c f an;have c:=b;refine za rfl (zz (q ?_));refine zr (k8.gJ rfl (aX.cell rfl (c.fX rfl rfl)) (aX.tmp rfl) ?_);exact ⟨.inr ⟨by omega,.inl ⟨r,d,G,rfl,n⟩⟩,a⟩
 refine zx rfl rfl (zx rfl rfl ?_);refine zss rfl rfl ao c rfl λI b k=>?_;(try simp only[qt] at b);have a:=a.s2 k;have c:=b;refine za rfl (zz (q ?_));refine zr (k8.gJ rfl (aX.cell rfl (c.fX rfl rfl)) (aX.tmp rfl) ?_);exact ⟨.inr ⟨by omega,.inr ⟨G,rfl⟩⟩,a⟩
def cxj(x:Option Dy)(mode:Int)(bits:Nat)(e:Int):Prop:=
  (¬(0<=mode/\mode<=4)/\bits=0/\e=1)\/((0<=mode/\mode<=4)/\((x=none/\bits=0/\e=2)\/∃ d r,x=some d/\lZ (dyA d.m d.e) (dyB d.e) d.neg mode r/\r<=9218868437227405312/\bits=(if d.neg then r+9223372036854775808 else r)/\e=0))
theorem c1x(na:Bool)(va:Value)(la:List Nat)(V mode:Int)(w:World)(U:NU w va la)(hg:GW w)(a1 : -9223372036854775808<=V/\V<=9223372036854775807):Ret Tryz.prog 76 [.agg [.bool na,va,.int .i64 V].toArray,.int .i64 mode] w λu w'=>(∃ bits e,u = .tuple [.float .f64 bits,.int .i64 e].toArray/\cxj (cQ na (val la) V) mode bits e)/\Chg [] w w':=by
 have a:=crf w;have b8:=U.one;refine zE2 Tryz.func76 rfl ?_;refine Sr λ_ Z=>?_;refine WL.cgj rfl rfl rfl λb2 b5 a2 o Q=>?_;have O:=Nat.le_trans a.size Q;have a:=a.trans o;have U:=U.q5 o;refine za rfl (za rfl (zz (Z (Sr λ_ s=>zg a2 rfl (zm rfl ?_)))));refine WL.call hasF141 rfl rfl (dtold_spec _ _ _ _ mode _ U (hg.q5 a) a1) λv w1 h'=>?_;obtain ⟨hD,T⟩:=h';have a:=a.trans T;rcases hD with ⟨z,rfl⟩|⟨z,⟨r,d,R,rfl,k⟩|⟨R,rfl⟩⟩
 ·refine zm rfl (zx rfl rfl (zx rfl rfl ?_));refine WL.iQ (l:=[.bool false,.slice none 0 0,.int .i64 0]) rfl rfl λb6 A b c h=>?_;have g:=Nat.le_trans a.size h;have a:=a.trans c;refine zss rfl rfl ao b rfl λa6 f x=>?_;(try simp only[qt] at f);have a:=a.s2 x;refine za rfl (zz (s (zc λ_ b7=>Sr λ_ Y=>zm rfl (zN rfl rfl (zz (Y ?_))))));refine CW.nZ rfl ?_;refine Sr λ_ X=>zm rfl (za rfl (za rfl (zz (X ?_))));refine zr (zr2 rfl rfl rfl ?_);exact ⟨⟨_,_,rfl,.inl ⟨z,rfl,rfl⟩⟩,a⟩
 ·have a0:=iJ R;refine zm rfl (zx rfl rfl (zx rfl rfl ?_));refine WL.iQ (l:=[.bool false,.slice none 0 0,.int .i64 0]) rfl rfl λb6 A b c h=>?_;have g:=Nat.le_trans a.size h;have a:=a.trans c;have k:=k.q5 c;refine zss rfl rfl ao b rfl λa5 f j=>?_;(try simp only[qt] at f);have a:=a.s2 j;have k:=k.q8 b j an;have b:=f;refine za rfl (zz (s (zc λ_ M=>Sr λ_ J=>zm rfl (zN rfl rfl (zz (J ?_))))));refine CW.oX rfl ?_;refine zkk (M (Sr λ_ I=>?_));refine WL.ev (Ev.build (vs:=_) (cs:=[_,_,_]) rfl rfl) rfl ?_;refine zg b rfl (zm rfl ?_);refine WL.call hasF142 rfl rfl (on_spec d.neg r d.m d.e mode _ k a0 z) λv w2 h'=>?_;obtain ⟨q,rfl,hN,hq,p⟩:=h';have a:=a.trans p;have b:=b.k0 p;refine WL.ev (Ev.ext rfl (ext82 _ _)) rfl ?_;rw[show ((q:Nat):Int).toNat=q by omega];refine za rfl (zz (I (zc λ_ n=>Sr λ_ H=>zf rfl (zl b rfl rfl (zz (H ?_))))));refine zy rfl ?_ ?_<;>intro y<;>try simp only[qs] at y
  ·have i:=y
   refine zR λ_ B=>?_;refine zm rfl ?_;refine WL.ev (Ev.fneg rfl) rfl ?_;rw[negF oO];refine za rfl ?_;refine WL.nil (B _ _ _ (n ?_));refine Sr λ_ G=>zm rfl (za rfl (za rfl (zz (G ?_))));refine zr (zr2 rfl rfl rfl ?_);exact ⟨⟨_,_,rfl,.inr ⟨z,.inr ⟨d,q,R,hN,hq,by rw[if_pos i],rfl⟩⟩⟩,a⟩
  have i:=y;refine zkk (n (Sr λ_ F=>zm rfl (za rfl (za rfl (zz (F ?_))))));refine zr (zr2 rfl rfl rfl ?_);exact ⟨⟨_,_,rfl,.inr ⟨z,.inr ⟨d,q,R,hN,hq,by rw[if_neg (by rw[i];decide)],rfl⟩⟩⟩,a⟩
 refine zm rfl (zx rfl rfl (zx rfl rfl ?_));refine WL.iQ (l:=[.bool false,.slice none 0 0,.int .i64 0]) rfl rfl λb6 A b c h=>?_;have g:=Nat.le_trans a.size h;have a:=a.trans c;refine zss rfl rfl ao b rfl λa4 f t=>?_;(try simp only[qt] at f);have a:=a.s2 t;refine za rfl (zz (s (zc λ_ b0=>Sr λ_ D=>zm rfl (zN rfl rfl (zz (D ?_))))));refine CW.nZ rfl ?_;refine Sr λ_ C=>zm rfl (za rfl (za rfl (zz (C ?_))));refine zr (zr2 rfl rfl rfl ?_);exact ⟨⟨_,_,rfl,.inr ⟨z,.inl ⟨R,rfl,rfl⟩⟩⟩,a⟩
structure PP where
  neg:Bool
  cls:Nat
  exp:Int
  frac:Nat
def j0(x:Nat):PP:=
  if x/4503599627370496%2048=2047/\x%4503599627370496≠0 then ⟨false,4,0,0⟩
  else if x/4503599627370496%2048=2047 then ⟨decide (x/9223372036854775808%2=1),3,0,0⟩
  else if 0<x/4503599627370496%2048 then ⟨decide (x/9223372036854775808%2=1),2,-1074+((x/4503599627370496%2048:Nat):Int)-1,x%4503599627370496+4503599627370496⟩
  else if 0<x%4503599627370496 then ⟨decide (x/9223372036854775808%2=1),1,-1074,x%4503599627370496⟩
  else ⟨decide (x/9223372036854775808%2=1),0,-1074,0⟩
theorem parts_spec(x:Nat)(w:World)(hx:x<18446744073709551616):Ret Tryz.prog 205 [.agg [.int .i64 11,.int .i64 52,.int .i64 (-1074)].toArray,.int .u64 (x:Int)] w λu w'=>u = .agg [.bool (j0 x).neg,.int .i64 ((j0 x).cls:Int),.int .i64 (j0 x).exp,.int .u64 ((j0 x).frac:Int)].toArray/\Chg [] w w':=by
 have d:=crf w;refine zE2 Tryz.func205 rfl ?_;refine Sr λ_ X=>?_;refine zBh rfl rfl rfl d λb2 b5 g a6 a5 F d=>?_;refine WL.iQ (l:=[.bool false,.int .i64 0,.int .i64 0,.int .u64 0]) rfl rfl λb4 b3 f n m=>?_;have D:=Nat.le_trans d.size m;have d:=d.ta n;have O:=zdd g.lt m;have g:=g.k0 n;refine zz (X (Sr λ_ V=>zm rfl (zf rfl (zl g rfl rfl ?_))));refine WL.ev (Ev.apx (a:=1) (b:=52) rfl rfl) rfl ?_;rw[show 1*2^52%18446744073709551616=4503599627370496 by omega];refine WL.ev (Ev.bdx (b:=1) rfl rfl oO oO) rfl ?_;refine WL.ev (Ev.andU rfl rfl rfl (by simp only[IntKind.bits];omega) (by simp only[IntKind.bits];omega)) rfl ?_;rw[show x&&& (4503599627370496-1)=x%4503599627370496 from Nat.and_two_pow_sub_one_eq_mod x 52];refine za rfl (zz (V (zc λ_ U=>?_)));refine CW.jQ cJ oR λb6 Q h=>?_;have d:=d.ta h;have g:=g.k0 h;have f:=f.k0 h;refine ym rfl (yf rfl ?_);refine WS.ev (Ev.load rfl rfl (g.at_ rfl)) rfl ?_;refine WS.ev (Ev.atx (b:=52) rfl rfl (by simp only[IntKind.bits];omega)) rfl ?_;rw[show x/2^52=x/4503599627370496 by omega];refine WS.ev (Ev.dZ rfl rfl (tQ oO)) rfl ?_;refine yf rfl ?_;refine WS.ev (Ev.load rfl rfl (g.at_ rfl)) rfl ?_;refine WS.ev (Ev.shlI (a:=1) (b:=11) (c:=2048) rfl rfl oD oD) rfl ?_
 first|refine WS.ev (Ev.dX rfl rfl oO) rfl ?_|refine WS.ev (Ev.sub rfl rfl) rfl ?_
 refine WS.ev (Ev.andI (b:=2047) rfl rfl oO oO) rfl ?_;rw[show x/4503599627370496&&& 2047=x/4503599627370496%2048 from Nat.and_two_pow_sub_one_eq_mod _ 11];refine ya rfl ?_;refine WS.nil (Q _ _ ?_);refine U (Sr λ_ T=>zm rfl (zf rfl (zl g rfl rfl (zf rfl (zl g rfl rfl ?_)))));(first|refine zi rfl rfl ?_|refine zo rfl rfl ?_);refine WL.ev (Ev.atx (b:=63) rfl rfl (by simp only[IntKind.bits];omega)) rfl ?_;rw[show x/2^63=x/9223372036854775808 by omega];refine WL.ev (Ev.andU (b:=1) rfl rfl rfl (by simp only[IntKind.bits];omega) (by simp only[IntKind.bits];omega)) rfl ?_;rw[Nat.and_one_is_mod];refine zq rfl rfl ?_;have Y:decide (((x/9223372036854775808%2:Nat):Int)=1)=decide (x/9223372036854775808%2=1):=decide_eq_decide.2 oO;rw[Y];refine za rfl (zz (T (zc λ_ R=>CW.block ?_)));refine CW.oJ 33 (decide (x/4503599627370496%2048=2047/\x%4503599627370496≠0)) ?_ ?_
 ·refine zS λ_ k=>zm rfl (zf rfl (zl g rfl rfl ?_));refine WL.ev (Ev.shlI (a:=1) (b:=11) (c:=2048) rfl rfl oD oD) rfl ?_
  first|refine WL.ev (Ev.dX rfl rfl oO) rfl ?_|refine WL.ev (Ev.sub rfl rfl) rfl ?_
  refine zq rfl rfl (zm rfl ?_);refine zb ?_ ?_<;>intro Z<;>try simp only[qs] at Z
  ·refine zw rfl (zm rfl (zw rfl (zN rfl rfl (zt rfl rfl (za rfl (zz (k ?_)))))));refine ⟨rfl,rfl,q9.g7 rfl ?_ ?_⟩
   ·first|(simp;omega)|(refine decide_eq_decide.2 ?_;omega)
   exact SMg
  refine zv rfl (zv rfl (ze rfl rfl (za rfl (zz (k ?_)))));refine ⟨rfl,rfl,q9.g7 rfl ?_ ?_⟩
  ·first|(simp;omega)|(refine decide_eq_decide.2 ?_;omega)
  exact SMg
 refine zy rfl ?_ ?_<;>intro a3<;>try simp only[qs] at a3
 ·refine Sr λ_ C=>?_
  refine WL.ev (Ev.build (vs:=_) (cs:=[_,_,_,_]) rfl rfl) rfl ?_;refine zss rfl rfl ao f rfl λb1 e M=>?_;(try simp only[qt] at e);have d:=d.s1 M;have f:=e;refine zz (C ?_);refine zr (k8.qJ rfl (aX.cell rfl (f.fX rfl rfl)) ?_);unfold j0;rw[if_pos oO];exact ⟨rfl,d⟩
 refine Sr λ_ B=>zm rfl (zf rfl (zl g rfl rfl ?_));refine WL.ev (Ev.shlI (a:=1) (b:=11) (c:=2048) rfl rfl oD oD) rfl ?_
 first|refine WL.ev (Ev.dX rfl rfl oO) rfl ?_|refine WL.ev (Ev.sub rfl rfl) rfl ?_
 refine zq rfl rfl (za rfl (zz (B ?_)));refine zy rfl ?_ ?_<;>intro a2<;>try simp only[qs] at a2
 ·refine Sr λ_ A=>zm rfl ?_
  refine WL.ev (Ev.build (vs:=_) (cs:=[_,_,_,_]) rfl rfl) rfl ?_;refine zss rfl rfl ao f rfl λb0 e J=>?_;(try simp only[qt] at e);have d:=d.s1 J;have f:=e;refine zz (A ?_);refine zr (k8.qJ rfl (aX.cell rfl (f.fX rfl rfl)) ?_);unfold j0;rw[if_neg oO,if_pos oO];exact ⟨rfl,d⟩
 refine Sr λ_ z=>zm rfl (zG rfl rfl (za rfl (zz (z ?_))));refine zy rfl ?_ ?_<;>intro a1<;>try simp only[qs] at a1
 ·refine zc λ_ v=>?_
  refine CW.gX 12 13 rfl cJ λa4 p i h=>?_;have d:=d.ta h;have g:=g.k0 h;have f:=f.k0 h;have j:=g;refine wk 0 rfl i (eM rfl) (wk 1 rfl i (eF rfl) (wk 2 rfl i (λ_ o=>Ev.load rfl rfl ((j.q5 o).at_ rfl)) (wk 3 rfl i (eM rfl) (wk 4 rfl i (λ_ _=>Ev.jZ rfl rfl oO) (wk 5 rfl i (λ_ _=>Ev.dX rfl rfl oO) (wk 6 rfl i (eM rfl) (wk 7 rfl i (eF rfl) (wk 8 rfl i (λ_ o=>Ev.load rfl rfl ((j.q5 o).at_ rfl)) (wk 9 rfl i (λ_ _=>Ev.apx (a:=1) (b:=52) rfl rfl) ?_)))))))));rw[show 1*2^52%18446744073709551616=4503599627370496 by omega];refine wk 10 rfl i (λ_ _=>Ev.orU rfl rfl rfl (by simp only[IntKind.bits];omega) (by simp only[IntKind.bits];omega)) ?_;rw[show x%4503599627370496||| 4503599627370496=x%4503599627370496+4503599627370496 from agj (s:=52) (y:=1) (Nat.mod_lt _ oD)];refine wk 11 rfl i (λ_ _=>Ev.build (vs:=_) (cs:=[_,_,_,_]) rfl rfl) ?_;refine WK.nQ 12 rfl oR oR rfl rfl rfl ao f oS rfl λa9 e I=>?_;(try simp only[qt] at e);have d:=d.s1 I;have f:=e;refine WK.done oR (p _ _ _ ?_);refine v ?_;refine zr (k8.qJ rfl (aX.cell rfl (f.fX rfl rfl)) ?_);unfold j0;rw[if_neg oO,if_neg oO,if_pos oO];exact ⟨rfl,d⟩
 refine Sr λ_ t=>zm rfl (zG rfl rfl (za rfl (zz (t ?_))));refine zy rfl ?_ ?_<;>intro a0<;>try simp only[qs] at a0
 ·refine Sr λ_ r=>zm rfl (zf rfl (zl g rfl rfl (zm rfl ?_)));refine WL.ev (Ev.build (vs:=_) (cs:=[_,_,_,_]) rfl rfl) rfl ?_
  refine zss rfl rfl ao f rfl λa8 e H=>?_;(try simp only[qt] at e);have d:=d.s1 H;have f:=e;refine zz (r ?_);refine zr (k8.qJ rfl (aX.cell rfl (f.fX rfl rfl)) ?_);unfold j0;rw[if_neg oO,if_neg oO,if_neg oO,if_pos oO];exact ⟨rfl,d⟩
 refine zkk (R (Sr λ_ q=>zm rfl (zf rfl (zl g rfl rfl ?_))));refine WL.ev (Ev.build (vs:=_) (cs:=[_,_,_,_]) rfl rfl) rfl ?_;refine zss rfl rfl ao f rfl λa7 e G=>?_;(try simp only[qt] at e);have d:=d.s1 G;have f:=e;refine zz (q ?_);refine zr (k8.qJ rfl (aX.cell rfl (f.fX rfl rfl)) ?_);unfold j0;rw[if_neg oO,if_neg oO,if_neg oO,if_neg oO];exact ⟨rfl,d⟩
theorem long_spec(w:World):Ret Tryz.prog 204 [] w λu w'=>u = .agg [.int .i64 11,.int .i64 52,.int .i64 (-1074)].toArray/\Chg [] w w':=by
 have a:=crf w;refine zE0 Tryz.func204 rfl ?_;refine Sr λ_ i=>?_;refine WL.iQ (l:=[.int .i64 0,.int .i64 0,.int .i64 0]) rfl rfl λm k c g e=>?_;have d:=Nat.le_trans a.size e;have a:=a.ta g;refine zz (i (Sr λ_ h=>?_));refine WL.ev (Ev.build (vs:=_) (cs:=[_,_,_]) rfl rfl) rfl ?_;refine zss rfl rfl ao c rfl λj b f=>?_;(try simp only[qt] at b);have a:=a.s1 f;have c:=b;refine zz (h ?_);refine zr (k8.qJ rfl (aX.cell rfl (c.fX rfl rfl)) ?_);exact ⟨rfl,a⟩
theorem dvx(x:Nat)(w:World)(p:x<18446744073709551616):Ret Tryz.prog 132 [.float .f64 x] w λu w'=>u = .agg [.bool (j0 x).neg,.int .i64 ((j0 x).cls:Int),.int .i64 (j0 x).exp,.int .u64 ((j0 x).frac:Int)].toArray/\Chg [] w w':=by
 have a:=crf w;refine zE1 Tryz.func132 rfl ?_;refine Sr λ_ k=>?_;refine WL.iQ (l:=[.bool false,.int .i64 0,.int .i64 0,.int .u64 0]) rfl rfl λs o b g e=>?_;have d:=Nat.le_trans a.size e;have a:=a.ta g;refine zz (k (Sr λ_ j=>?_));refine WL.call hasF204 rfl rfl (long_spec _) λv r m=>?_;obtain ⟨rfl,i⟩:=m;have a:=a.ta i;have b:=b.k0 i;refine zm rfl ?_;refine WL.ev (Ev.ext rfl (ext48 _ _)) rfl ?_;refine WL.call hasF205 rfl rfl (parts_spec x _ p) λv q m=>?_;obtain ⟨rfl,h⟩:=m;have a:=a.ta h;have b:=b.k0 h;refine zss rfl rfl ao b rfl λn c f=>?_;(try simp only[qt] at c);have a:=a.s1 f;have b:=c;refine zz (j ?_);refine zr (k8.qJ rfl (aX.cell rfl (b.fX rfl rfl)) ?_);exact ⟨rfl,a⟩
def k7(x:Nat):Nat:=
  if (j0 x).cls=4 then 5 else if (j0 x).cls=3/\(j0 x).neg=true then 4 else if (j0 x).cls=3 then 3
  else if (j0 x).cls=0/\(j0 x).neg=true then 1 else if (j0 x).cls=0 then 2 else 0
theorem kind_spec(x:Nat)(w:World)(R:x<18446744073709551616):Ret Tryz.prog 130 [.float .f64 x] w λu w'=>u = .int .i64 (k7 x:Int)/\Chg [] w w':=by
 have a:=crf w;refine zE1 Tryz.func130 rfl ?_;refine Sr λ_ D=>za rfl (zz (D (Sr λ_ C=>zm rfl ?_)));refine WL.call hasF132 rfl rfl (dvx x _ R) λv U T=>?_;obtain ⟨rfl,M⟩:=T;have a:=a.ta M;refine WL.iQ (l:=[.bool false,.int .i64 0,.int .i64 0,.int .u64 0]) rfl rfl λV Q c y s=>?_;have r:=Nat.le_trans a.size s;have a:=a.ta y;refine zss rfl rfl ao c rfl λO g t=>?_;(try simp only[qt] at g);have a:=a.s1 t;have c:=g;refine zz (C (zc λ_ B=>CW.block (Sr λ_ A=>zf rfl (zl c rfl rfl (zq rfl rfl (za rfl (zz (A ?_))))))));refine zy rfl ?_ ?_<;>intro J<;>try simp only[qs] at J
 ·refine Sr λ_ z=>za rfl (zz (z ?_));refine zr (zr1 rfl rfl ?_);unfold k7;rw[if_pos oO];exact ⟨rfl,a⟩
 refine CW.oJ 10 (decide ((j0 x).cls=3/\(j0 x).neg=true)) ?_ ?_
 ·refine zS λ_ f=>zf rfl (zl c rfl rfl (zq rfl rfl (zm rfl ?_)));refine zb ?_ ?_<;>intro G<;>try simp only[qs] at G
  ·refine zw rfl (zf rfl (zw rfl (zl c rfl rfl (zt rfl rfl (za rfl (zz (f ?_)))))));refine ⟨rfl,rfl,q9.g7 rfl ?_ ?_⟩
   ·first|(simp_all;done)|(simp;omega)|(cases hnn:(j0 x).neg<;>simp_all<;>omega)
   exact SMg
  refine zv rfl (zv rfl (ze rfl rfl (za rfl (zz (f ?_)))));refine ⟨rfl,rfl,q9.g7 rfl ?_ ?_⟩
  ·first|(simp_all;done)|(simp;omega)|(cases hnn:(j0 x).neg<;>simp_all<;>omega)
  exact SMg
 refine zy rfl ?_ ?_<;>intro i<;>try simp only[qs] at i
 ·have b:=i
  refine Sr λ_ q=>za rfl (zz (q ?_));refine zr (zr1 rfl rfl ?_);unfold k7;rw[if_neg oO,if_pos b];exact ⟨rfl,a⟩
 have b:=i;refine Sr λ_ p=>zf rfl (zl c rfl rfl (zq rfl rfl (za rfl (zz (p ?_)))));refine zy rfl ?_ ?_<;>intro I<;>try simp only[qs] at I
 ·refine Sr λ_ o=>za rfl (zz (o ?_));refine zr (zr1 rfl rfl ?_);unfold k7;rw[if_neg oO,if_neg b,if_pos oO];exact ⟨rfl,a⟩
 refine CW.oJ 22 (decide ((j0 x).cls=0/\(j0 x).neg=true)) ?_ ?_
 ·refine zS λ_ e=>zf rfl (zl c rfl rfl (zq rfl rfl (zm rfl ?_)));refine zb ?_ ?_<;>intro F<;>try simp only[qs] at F
  ·refine zw rfl (zf rfl (zw rfl (zl c rfl rfl (zt rfl rfl (za rfl (zz (e ?_)))))));refine ⟨rfl,rfl,q9.g7 rfl ?_ ?_⟩
   ·first|(simp_all;done)|(simp;omega)|(cases hnn:(j0 x).neg<;>simp_all<;>omega)
   exact SMg
  refine zv rfl (zv rfl (ze rfl rfl (za rfl (zz (e ?_)))));refine ⟨rfl,rfl,q9.g7 rfl ?_ ?_⟩
  ·first|(simp_all;done)|(simp;omega)|(cases hnn:(j0 x).neg<;>simp_all<;>omega)
  exact SMg
 refine zy rfl ?_ ?_<;>intro h<;>try simp only[qs] at h
 ·have d:=h
  refine Sr λ_ n=>za rfl (zz (n ?_));refine zr (zr1 rfl rfl ?_);unfold k7;rw[if_neg oO,if_neg b,if_neg oO,if_pos d];exact ⟨rfl,a⟩
 have d:=h;refine Sr λ_ m=>zf rfl (zl c rfl rfl (zq rfl rfl (za rfl (zz (m ?_)))));refine zy rfl ?_ ?_<;>intro H<;>try simp only[qs] at H
 ·refine Sr λ_ k=>za rfl (zz (k ?_));refine zr (zr1 rfl rfl ?_);unfold k7;rw[if_neg oO,if_neg b,if_neg oO,if_neg d,if_pos oO];exact ⟨rfl,a⟩
 refine zkk (B (Sr λ_ j=>za rfl (zz (j ?_))));refine zr (zr1 rfl rfl ?_);unfold k7;rw[if_neg oO,if_neg b,if_neg oO,if_neg d,if_neg oO];exact ⟨rfl,a⟩
theorem c0j(n:Int)(w:World):Ret Tryz.prog 203 [.int .i64 n] w λu w'=>u = .bool (decide (0<=n/\n<=2))/\w=w':=by
 refine zE1 Tryz.func203 rfl ?_;refine Sr λ_ b=>za rfl (zz (b (Sr λ_ a=>zm rfl ?_)));refine WL.ev (Ev.geq rfl rfl) rfl ?_;refine zm rfl ?_;refine zb ?_ ?_<;>intro c<;>try simp only[qs] at c
 ·refine zw rfl (zm rfl (zw rfl (zQ rfl rfl (zt rfl rfl (za rfl (zz (a ?_)))))));refine zr (zr1 rfl rfl ?_);refine ⟨congrArg Value.bool (decide_eq_decide.2 oO),rfl⟩
 refine zv rfl (zv rfl (ze rfl rfl (za rfl (zz (a ?_)))));refine zr (zr1 rfl rfl ?_);refine ⟨?_,rfl⟩;rw[decide_eq_false oO]
def xJ(a b:Int):Prop:=(0<=a/\a<=2)/\(0<=b/\b<=2)
instance (a b:Int):Decidable (xJ a b):=by unfold xJ;exact inferInstance
theorem dwx(e f:Int)(w:World):Ret Tryz.prog 129 [.agg [.int .i64 e,.int .i64 f].toArray] w λu w'=>u = .bool (decide (xJ e f))/\Chg [] w w':=by
 have a:=crf w;refine zE1 Tryz.func129 rfl ?_;refine Sr λ_ g=>?_;refine zBh rfl rfl rfl a λo l d k j c a=>?_;refine za rfl (zz (g (Sr λ_ b=>zf rfl (zl d rfl rfl ?_))));refine WL.call hasF203 rfl rfl (c0j e _) λv n i=>?_;obtain ⟨rfl,rfl⟩:=i;refine zm rfl ?_;refine zb ?_ ?_<;>intro h<;>try simp only[qs] at h
 ·refine zw rfl (zf rfl (zw rfl (zl d rfl rfl (zw rfl ?_))));refine WL.call hasF203 rfl rfl (c0j f _) λv m i=>?_
  obtain ⟨rfl,rfl⟩:=i;refine zt rfl rfl (za rfl (zz (b ?_)));refine zr (zr1 rfl rfl ?_);refine ⟨congrArg Value.bool (decide_eq_decide.2 (by unfold xJ;omega)),a⟩
 refine zv rfl (zv rfl (zv rfl (ze rfl rfl (za rfl (zz (b ?_))))));refine zr (zr1 rfl rfl ?_);refine ⟨?_,a⟩;rw[decide_eq_false (by unfold xJ;omega)]
structure SP where
  na:Nat
  up:Nat
  dn:Nat
  mi:Nat
  pl:Nat
  al:Nat
def SP.cells(s:SP):List Value:=[.int .i64 (s.na:Int),.int .i64 (s.up:Int),.int .i64 (s.dn:Int),.int .i64 (s.mi:Int),.int .i64 (s.pl:Int),.int .i64 (s.al:Int)]
def SP.le(s:SP)(n:Nat):Prop:=s.na<=n/\s.up<=n/\s.dn<=n/\s.mi<=n/\s.pl<=n/\s.al<=n
def SP.zero:SP:=⟨0,0,0,0,0,0⟩
def countP(s:SP)(k:Nat):SP:=
  ⟨s.na+(if k=5 then 1 else 0),s.up+(if k=3 then 1 else 0),s.dn+(if k=4 then 1 else 0),s.mi+(if k=1 then 1 else 0),s.pl+(if k=2 then 1 else 0),s.al+1⟩
theorem countP.le{s:SP}{k n:Nat}(h:s.le n):(countP s k).le (n+1):=by
  obtain ⟨a,b,c,d,e,f⟩:=h
  refine ⟨?_,?_,?_,?_,?_,?_⟩<;>(simp only[countP];try split)<;>omega
def cX(s:SP):Prop:=s.na+s.up+s.dn+s.mi+s.pl<=s.al/\s.al<=1099511627776
instance (s:SP):Decidable (cX s):=by unfold cX;exact inferInstance
def SP.d0x(s:SP):List Nat:=[s.na,s.up,s.dn,s.mi,s.pl]
theorem take_sum{l:List Nat}: ∀ {i:Nat},i<l.length->(l.take (i+1)).sum=(l.take i).sum+l.getD i 0:=by
  induction l with
  | nil=>intro i h;simp at h
  | cons a l ih=>
    intro i h
    cases i with
    | zero=>simp
    | succ i=>
      have:=ih (i:=i) (by simpa using h)
      simp only[List.take_succ_cons,List.sum_cons,this,List.getD_cons_succ];omega
theorem five_le(s:SP)(i:Nat):s.d0x.getD i 0<=s.na+s.up+s.dn+s.mi+s.pl:=by
  unfold SP.d0x
  match i with
  | 0=>simp;omega
  | 1=>simp;omega
  | 2=>simp;omega
  | 3=>simp;omega
  | 4=>simp
  | n+5=>simp
theorem five_sum(s:SP):(s.d0x.take 5).sum=s.na+s.up+s.dn+s.mi+s.pl:=by
  simp[SP.d0x];omega
theorem count_spec(b k:Nat)(s:SP)(w:World)(d:BK w b 85 s.cells)(hs:s.le 1000000000000000):Ret Tryz.prog 131 [.pointer (some ⟨b,0,none⟩),.int .i64 (k:Int)] w λu w'=>BK w' b 85 (countP s k).cells/\Chg [b] w w':=by
 obtain ⟨a3,a2,a1,a0,Z,Y⟩:=hs;unfold SP.cells at d;have a:Chg [b] w w:=Chg.refl _ _;refine zE2 Tryz.func131 rfl ?_;refine Sr λ_ A=>zm rfl (zP rfl (zf rfl (zl d rfl rfl ?_)));(first|refine zi rfl rfl ?_|refine zo rfl rfl ?_);refine zP rfl (zf rfl ?_);refine WL.bJ rfl rfl o1 d oS rfl λQ c t=>?_;(try simp only[qt] at c);have a:=a.s1 t;have d:=c;refine zz (A (Sr λ_ z=>zm rfl (zz (z (CW.block (Sr λ_ y=>zq rfl rfl (za rfl (zz (y ?_)))))))));refine zy rfl ?_ ?_<;>intro G<;>try simp only[qs] at G
 ·refine zS λ_ v=>zm rfl (zP rfl (zf rfl (zl d rfl rfl ?_)));(first|refine zi rfl rfl ?_|refine zo rfl rfl ?_);refine zP rfl (zf rfl ?_);refine WL.bJ rfl rfl o1 d oS rfl λO c j=>?_
  (try simp only[qt] at c);have a:=a.s1 j
  have d:=c;refine zz (v ?_);refine k8.czq rfl ?_;refine ⟨?_,a⟩;have e:k=5:=by omega
  subst e
  simpa[SP.cells,countP] using d
 refine Sr λ_ x=>zq rfl rfl (za rfl (zz (x ?_)));refine zy rfl ?_ ?_<;>intro F<;>try simp only[qs] at F
 ·refine zS λ_ o=>zm rfl (zP rfl (zf rfl (zl d rfl rfl ?_)));(first|refine zi rfl rfl ?_|refine zo rfl rfl ?_);refine zP rfl (zf rfl ?_);refine WL.bJ rfl rfl o1 d oS rfl λM c i=>?_
  (try simp only[qt] at c);have a:=a.s1 i
  have d:=c;refine zz (o ?_);refine k8.czq rfl ?_;refine ⟨?_,a⟩;have e:k=3:=by omega
  subst e
  simpa[SP.cells,countP] using d
 refine Sr λ_ r=>zq rfl rfl (za rfl (zz (r ?_)));refine zy rfl ?_ ?_<;>intro D<;>try simp only[qs] at D
 ·refine zS λ_ n=>zm rfl (zP rfl (zf rfl (zl d rfl rfl ?_)));(first|refine zi rfl rfl ?_|refine zo rfl rfl ?_);refine zP rfl (zf rfl ?_);refine WL.bJ rfl rfl o1 d oS rfl λJ c h=>?_
  (try simp only[qt] at c);have a:=a.s1 h
  have d:=c;refine zz (n ?_);refine k8.czq rfl ?_;refine ⟨?_,a⟩;have e:k=4:=by omega
  subst e
  simpa[SP.cells,countP] using d
 refine Sr λ_ q=>zq rfl rfl (za rfl (zz (q ?_)));refine zy rfl ?_ ?_<;>intro C<;>try simp only[qs] at C
 ·refine zS λ_ m=>zm rfl (zP rfl (zf rfl (zl d rfl rfl ?_)));(first|refine zi rfl rfl ?_|refine zo rfl rfl ?_);refine zP rfl (zf rfl ?_);refine WL.bJ rfl rfl o1 d oS rfl λI c g=>?_
  (try simp only[qt] at c);have a:=a.s1 g
  have d:=c;refine zz (m ?_);refine k8.czq rfl ?_;refine ⟨?_,a⟩;have e:k=1:=by omega
  subst e
  simpa[SP.cells,countP] using d
 refine Sr λ_ p=>zq rfl rfl (za rfl (zz (p ?_)));refine zy rfl ?_ ?_<;>intro B<;>try simp only[qs] at B
 ·refine zS λ_ l=>zm rfl (zP rfl (zf rfl (zl d rfl rfl ?_)));(first|refine zi rfl rfl ?_|refine zo rfl rfl ?_);refine zP rfl (zf rfl ?_);refine WL.bJ rfl rfl o1 d oS rfl λH c f=>?_
  (try simp only[qt] at c);have a:=a.s1 f
  have d:=c;refine zz (l ?_);refine k8.czq rfl ?_;refine ⟨?_,a⟩;have e:k=2:=by omega
  subst e
  simpa[SP.cells,countP] using d
 refine zkk ?_;refine k8.czq rfl ?_;refine ⟨?_,a⟩;have X : ¬k=5:=by omega
 have V : ¬k=3:=by omega
 have U : ¬k=4:=by omega
 have T : ¬k=1:=by omega
 have R : ¬k=2:=by omega
 simpa[SP.cells,countP,X,V,U,T,R] using d
def KMb(s:SP)(b:Nat)(w0:World)(g:Nat×Nat)(w:World):Prop:=g.1<=5/\g.2=(s.d0x.take g.1).sum/\g.2<=g.1*1099511627776/\BK w b 85 s.cells/\Chg [] w0 w
theorem dnx(s:SP)(w:World)(Y:s.le 1000000000000000):Ret Tryz.prog 137 [.agg [.int .i64 (s.na:Int),.int .i64 (s.up:Int),.int .i64 (s.dn:Int),.int .i64 (s.mi:Int),.int .i64 (s.pl:Int),.int .i64 (s.al:Int)].toArray] w λu w'=>u = .bool (decide (cX s))/\Chg [] w w':=by
  obtain ⟨X,V,U,T,R,Q⟩:=Y;have b:=crf w;refine zE1 Tryz.func137 rfl ?_;refine Sr λ_ z=>?_;refine zBh rfl rfl rfl b λM O a J I q b=>?_;refine za rfl (zz (z (Sr λ_ y=>za rfl (zz (y (zc λ_ x=>Sr λ_ t=>zf rfl (zl a rfl rfl (zf rfl (zl a rfl rfl (zf rfl (zl a rfl rfl (zf rfl (zl a rfl rfl (zf rfl (zl a rfl rfl ?_)))))))))))))));refine WL.ev (Ev.buildA (vs:=_) (cs:=[_,_,_,_,_]) rfl rfl) rfl ?_;refine zm rfl (zz (t (CW.block ?_)));refine CW.loop (S:=λg:Nat×Nat=>[(1,.pointer (some ⟨M,0,none⟩)),(2,.bool false),(3,.int .i64 (g.2:Int)),(16,.agg (s.d0x.map λn:Nat=>Value.int .i64 (n:Int)).toArray),(17,.int .i64 (g.1:Int))]) (Inv:=KMb s M w) (mu:=λg=>5-g.1) ((0,0)) ?_ ?_ ?_
  · exact ⟨by omega,rfl,by omega,a,b⟩
  · exact SLp
  rintro ⟨i,m⟩ wr ⟨C,B,A,a,b⟩;dsimp only at C B A a b;unfold SP.cells at a;have Z:=five_le s i;refine Sr λ_ r=>zL rfl rfl (zz (r (zc λ_ p=>?_)));refine zy rfl ?_ ?_<;>intro H<;>try simp only[qs] at H
  · refine zkk (p (zc λ_ o=>CW.block (Sr λ_ l=>?_)));refine WL.ev (Ev.indexAr (i:=i) (v:=.int .i64 ((s.d0x.getD i 0:Nat):Int)) rfl rfl oO rfl ?_) rfl ?_
    · have:i<s.d0x.length:=by show i<5;omega
      rw[List.getElem?_map,List.getD_eq_getElem?_getD,List.getElem?_eq_getElem this];rfl
    refine za rfl (zz (l (zc λ_ k=>?_)));refine CW.oJ 25 (decide (1099511627776<s.d0x.getD i 0)) ?_ ?_
    · refine zS λ_ d=>zm rfl (zL rfl rfl (zm rfl ?_));refine zb ?_ ?_<;>intro F<;>try simp only[qs] at F
      · refine zv rfl (zv rfl (zt rfl rfl (zz (d ?_))));refine ⟨rfl,rfl,q9.g7 rfl ?_ ?_⟩
        · first|(simp;omega)|(refine decide_eq_decide.2 ?_;omega)
        exact SMg
      refine zw rfl (zm rfl (zw rfl (zG rfl rfl (ze rfl rfl (zz (d ?_))))));refine ⟨rfl,rfl,q9.g7 rfl ?_ ?_⟩
      · first|(simp;omega)|(refine decide_eq_decide.2 ?_;omega)
      exact SMg
    refine zy rfl ?_ ?_<;>intro G<;>try simp only[qs] at G
    · refine Sr λ_ j=>za rfl (zz (j ?_));refine zr (zr1 rfl rfl ?_);refine ⟨?_,b⟩;rw[decide_eq_false (by unfold cX;omega)]
    refine zkk (k ?_);refine zR λ_ h=>?_;refine zm rfl (zm rfl ?_);(first|refine zi rfl rfl ?_|refine zo rfl rfl ?_);refine za rfl ?_;refine WL.nil (h _ _ _ (o ?_));refine zS λ_ f=>?_;(first|refine zi rfl rfl ?_|refine zo rfl rfl ?_);refine zm rfl (zz (f ?_));refine ⟨rfl,(i+1,m+s.d0x.getD i 0),?_,?_,?_⟩
    · exact SLp
    · exact ⟨by omega,by dsimp only;rw[B];exact (take_sum (by show i<5;omega)).symm,by dsimp only;omega,a,b⟩
    show 5-(i+1)<5-i;omega
  refine CW.exit ?_;refine x (zc λ_ e=>?_);have h5:i=5:=by omega
  subst h5;rw[five_sum] at B;refine zR λ_ c=>?_;refine zm rfl (zf rfl (zl a rfl rfl (zQ rfl rfl (zm rfl ?_))));refine zb ?_ ?_<;>intro D<;>try simp only[qs] at D
  · refine zw rfl (zf rfl (zw rfl (zl a rfl rfl (zw rfl (zQ rfl rfl (zt rfl rfl (za rfl ?_)))))));refine WL.nil (c _ _ _ (e ?_));refine zr (zr1 rfl rfl ?_);refine ⟨congrArg Value.bool (decide_eq_decide.2 (by unfold cX;omega)),b⟩
  refine zv rfl (zv rfl (zv rfl (ze rfl rfl (za rfl ?_))));refine WL.nil (c _ _ _ (e ?_));refine zr (zr1 rfl rfl ?_);refine ⟨?_,b⟩;rw[decide_eq_false (by unfold cX;omega)]
theorem Inf_spec(n:Int)(w:World):Ret Tryz.prog 138 [.int .i64 n] w λu w'=>u = .float .f64 (if 0<=n then 9218868437227405312 else 18442240474082181120)/\w=w':=by
 refine zE1 Tryz.func138 rfl ?_;refine Sr λ_ h=>za rfl (zz (h (Sr λ_ g=>za rfl (zz (g (zc λ_ b=>Sr λ_ f=>zm rfl ?_))))));refine WL.ev (Ev.geq rfl rfl) rfl ?_;refine zz (f ?_);refine zy rfl ?_ ?_<;>intro i<;>try simp only[qs] at i
 ·refine zR λ_ d=>?_
  refine za rfl ?_;refine WL.nil (d _ _ _ (b ?_));refine Sr λ_ e=>zm rfl ?_;refine WL.ev (Ev.ext rfl (ext82 _ _)) rfl ?_;refine za rfl (zz (e ?_));refine zr (zr1 rfl rfl ?_);rw[if_pos oO];exact ⟨rfl,rfl⟩
 refine zR λ_ a=>?_;refine za rfl ?_;refine WL.nil (a _ _ _ (b ?_));refine Sr λ_ c=>zm rfl ?_;refine WL.ev (Ev.ext rfl (ext82 _ _)) rfl ?_;refine za rfl (zz (c ?_));refine zr (zr1 rfl rfl ?_);rw[if_neg oO];exact ⟨rfl,rfl⟩
theorem cdx(w:World):Ret Tryz.prog 140 [.float .f64 0,.float .f64 13830554455654793216] w λu w'=>u = .float .f64 9223372036854775808/\w=w':=by
 refine zE2 Tryz.func140 rfl ?_;refine Sr λ_ d=>za rfl (zz (d (Sr λ_ c=>zm rfl ?_)));refine WL.ev (Ev.ext rfl (ext48 _ _)) rfl ?_;refine WL.ev (Ev.andNotU (a:=0) (b:=9223372036854775808) rfl rfl rfl oD oD) rfl ?_;rw[show 0&&& (2^IntKind.u64.bits-1-9223372036854775808)=0 from Nat.zero_and _];refine zm rfl ?_;refine WL.ev (Ev.ext rfl (ext48 _ _)) rfl ?_;refine WL.ev (Ev.andU (a:=13830554455654793216) (b:=9223372036854775808) rfl rfl rfl oD oD) rfl ?_;rw[show 13830554455654793216&&& 9223372036854775808=9223372036854775808 from by decide];refine WL.ev (Ev.orU (a:=0) (b:=9223372036854775808) rfl rfl rfl oD oD) rfl ?_;rw[show 0||| 9223372036854775808=9223372036854775808 from by decide];refine WL.ev (Ev.ext rfl (ext82 _ _)) rfl ?_;refine za rfl (zz (c ?_));refine zr (zr1 rfl rfl ?_);exact ⟨rfl,rfl⟩
theorem NaN_spec(w:World):Ret Tryz.prog 77 [] w λu w'=>u = .float .f64 9221120237041090560/\w=w':=by
 refine zE0 Tryz.func77 rfl ?_;refine Sr λ_ b=>za rfl (zz (b (Sr λ_ a=>?_)));refine WL.ev (Ev.ext rfl (ext82 _ _)) rfl ?_;refine za rfl (zz (a ?_));refine zr (zr1 rfl rfl ?_);exact ⟨rfl,rfl⟩
theorem Plain_spec(w:World):Ret Tryz.prog 69 [] w λu w'=>u = .agg [.int .i64 0,.int .i64 0].toArray/\Chg [] w w':=by
 have a:=crf w;refine zE0 Tryz.func69 rfl ?_;refine Sr λ_ i=>?_;refine WL.iQ (l:=[.int .i64 0,.int .i64 0]) rfl rfl λm k d g f=>?_;have e:=Nat.le_trans a.size f;have a:=a.ta g;refine zz (i (Sr λ_ h=>?_));refine WL.ev (Ev.build (vs:=_) (cs:=[_,_]) rfl rfl) rfl ?_;refine zss rfl rfl ao d rfl λj b c=>?_;(try simp only[qt] at b);have a:=a.s1 c;have d:=b;refine zz (h ?_);refine zr (k8.qJ rfl (aX.cell rfl (d.fX rfl rfl)) ?_);exact ⟨rfl,a⟩
def lQ(s:SP)(pn pi:Int):Option Nat:=
  if ¬cX s\/¬xJ pn pi then none else if (0<s.na/\pn=0)\/(0<s.up/\0<s.dn/\pi=0) then some 9221120237041090560
  else if 0<s.up/\pi=0 then some 9218868437227405312 else if 0<s.dn/\pi=0 then some 18442240474082181120 else none
def acj(s:SP)(mode:Int):Nat:=
  if cX s/\s.na+s.up+s.dn<s.al/\(s.mi+s.na+s.up+s.dn=s.al\/s.pl+s.na+s.up+s.dn<s.al/\mode=3) then 9223372036854775808 else 0
theorem coj(s:SP)(f e:Int)(w:World)(hs:s.le 1000000000000000):Ret Tryz.prog 73 [.agg [.int .i64 (s.na:Int),.int .i64 (s.up:Int),.int .i64 (s.dn:Int),.int .i64 (s.mi:Int),.int .i64 (s.pl:Int),.int .i64 (s.al:Int)].toArray,.agg [.int .i64 f,.int .i64 e].toArray] w λu w'=>u = .tuple [.float .f64 ((lQ s f e).getD 0),.bool (lQ s f e).isSome].toArray/\Chg [] w w':=by
 have a5:=hs;obtain ⟨c4,c3,c2,c1,c0,b9⟩:=hs;have a:=crf w;refine zE2 Tryz.func73 rfl ?_;refine Sr λ_ a4=>?_;refine zBh rfl rfl rfl a λb2 b6 b b4 b1 M a=>?_;refine zBh rfl rfl rfl a λZ b5 c Q O J a=>?_;have V:=zdd b.lt O;have b:=b.k0 Q;refine za rfl (za rfl (zz (a4 (zc λ_ a3=>?_))));refine CW.axj 15 (decide (¬cX s\/¬xJ f e)) ?_ ?_
 ·intro d;refine zS λ_ A=>zg b rfl ?_;refine WL.call hasF137 rfl rfl (dnx s _ a5) λv w1 l=>?_;obtain ⟨rfl,R⟩:=l;have d:=d.ta R;have c:=c.k0 R;refine zT rfl (zm rfl ?_);refine zb ?_ ?_<;>intro a8<;>try simp only[qs] at a8
  ·refine zv rfl (zv rfl (zv rfl (zt rfl rfl (zz (A ?_)))));refine ⟨rfl,d,q9.g7 rfl ?_ ?_⟩
   ·first|(simp_all;done)|(refine (decide_eq_true ?_).symm;simp_all;done)|(refine decide_eq_decide.2 ?_;simp_all;done)
   exact SMg
  refine zw rfl (zg c rfl (zw rfl ?_));refine WL.call hasF129 rfl rfl (dwx f e _) λv w2 l=>?_;obtain ⟨rfl,T⟩:=l;have d:=d.ta T;refine zw rfl (zT rfl (ze rfl rfl (zz (A ?_))));refine ⟨rfl,d,q9.g7 rfl ?_ ?_⟩
  ·first|(simp_all;done)|(refine (decide_eq_true ?_).symm;simp_all;done)|(refine decide_eq_decide.2 ?_;simp_all;done)
  exact SMg
 intro wM d;have a:=a.ta d;have b:=b.k0 d;have c:=c.k0 d;refine zy rfl ?_ ?_<;>intro y<;>try simp only[qs] at y
 ·have g : ¬cX s\/¬xJ f e:=y
  refine Sr λ_ a2=>za rfl (za rfl (zz (a2 ?_)));refine zr (zr2 rfl rfl rfl ?_);refine ⟨?_,a⟩;unfold lQ;rw[if_pos g];rfl
 have g : ¬(¬cX s\/¬xJ f e):=y;refine zkk (a3 ?_);refine CW.anx (λD z w'=>D=[]/\BK w' b2 85 s.cells/\BK w' Z 34 [.int .i64 f,.int .i64 e]/\Chg [] w w'/\q9 [(6,.bool (decide (0<s.up/\e=0))),(7,.bool (decide (0<s.dn/\e=0))),(2,.pointer (some ⟨b2,0,none⟩)),(3,.pointer (some ⟨Z,0,none⟩))] z) ?_ ?_
 ·refine CW.jQ cJ oR λb8 k r=>?_;have a:=a.ta r;have b:=b.k0 r;have c:=c.k0 r;refine yf rfl ?_;refine WS.ev (Ev.load rfl rfl (b.at_ rfl)) rfl ?_;refine WS.ev (Ev.gtr rfl rfl) rfl ?_;refine ym rfl ?_;refine WS.afq (λq=>?_) (λq=>?_)
  ·(try simp only[qs] at q);refine yw rfl (yf rfl (yw rfl ?_));refine WS.ev (Ev.load rfl rfl (c.at_ rfl)) rfl ?_
   refine yw rfl ?_;refine WS.ev (Ev.eql rfl rfl) rfl ?_;refine yt rfl rfl (yf rfl ?_);refine WS.ev (Ev.load rfl rfl (b.at_ rfl)) rfl ?_;refine WS.ev (Ev.gtr rfl rfl) rfl ?_;refine ym rfl ?_;refine WS.afq (λp=>?_) (λp=>?_)
   ·(try simp only[qs] at p);refine yw rfl (yf rfl (yw rfl ?_));refine WS.ev (Ev.load rfl rfl (c.at_ rfl)) rfl ?_
    refine yw rfl ?_;refine WS.ev (Ev.eql rfl rfl) rfl ?_;refine yt rfl rfl (ya rfl (ya rfl ?_));refine WS.nil (k _ _ ?_);refine ⟨rfl,b,c,a,q9.g7 rfl ?_ (q9.g7 rfl ?_ ?_)⟩
    · first|(simp_all;done)|(refine decide_eq_decide.2 ?_;omega)|(refine (decide_eq_true ?_).symm;omega)|(refine (decide_eq_false ?_).symm;omega)|(refine decide_eq_decide.2 ?_;simp_all;done)
    · first|(simp_all;done)|(refine decide_eq_decide.2 ?_;omega)|(refine (decide_eq_true ?_).symm;omega)|(refine (decide_eq_false ?_).symm;omega)|(refine decide_eq_decide.2 ?_;simp_all;done)
    (repeat (first|exact q9.nil|refine q9.cons rfl ?_))
   (try simp only[qs] at p);refine yv rfl (yv rfl (yv rfl (ye rfl rfl (ya rfl (ya rfl ?_)))));refine WS.nil (k _ _ ?_);refine ⟨rfl,b,c,a,q9.g7 rfl ?_ (q9.g7 rfl ?_ ?_)⟩
   · first|(simp_all;done)|(refine decide_eq_decide.2 ?_;omega)|(refine (decide_eq_true ?_).symm;omega)|(refine (decide_eq_false ?_).symm;omega)|(refine decide_eq_decide.2 ?_;simp_all;done)
   · first|(simp_all;done)|(refine decide_eq_decide.2 ?_;omega)|(refine (decide_eq_true ?_).symm;omega)|(refine (decide_eq_false ?_).symm;omega)|(refine decide_eq_decide.2 ?_;simp_all;done)
   (repeat (first|exact q9.nil|refine q9.cons rfl ?_))
  (try simp only[qs] at q);refine yv rfl (yv rfl (yv rfl (ye rfl rfl (yf rfl ?_))));refine WS.ev (Ev.load rfl rfl (b.at_ rfl)) rfl ?_
  refine WS.ev (Ev.gtr rfl rfl) rfl ?_;refine ym rfl ?_;refine WS.afq (λo=>?_) (λo=>?_)
  ·(try simp only[qs] at o);refine yw rfl (yf rfl (yw rfl ?_));refine WS.ev (Ev.load rfl rfl (c.at_ rfl)) rfl ?_
   refine yw rfl ?_;refine WS.ev (Ev.eql rfl rfl) rfl ?_;refine yt rfl rfl (ya rfl (ya rfl ?_));refine WS.nil (k _ _ ?_);refine ⟨rfl,b,c,a,q9.g7 rfl ?_ (q9.g7 rfl ?_ ?_)⟩
   · first|(simp_all;done)|(refine decide_eq_decide.2 ?_;omega)|(refine (decide_eq_true ?_).symm;omega)|(refine (decide_eq_false ?_).symm;omega)|(refine decide_eq_decide.2 ?_;simp_all;done)
   · first|(simp_all;done)|(refine decide_eq_decide.2 ?_;omega)|(refine (decide_eq_true ?_).symm;omega)|(refine (decide_eq_false ?_).symm;omega)|(refine decide_eq_decide.2 ?_;simp_all;done)
   (repeat (first|exact q9.nil|refine q9.cons rfl ?_))
  (try simp only[qs] at o);refine yv rfl (yv rfl (yv rfl (ye rfl rfl (ya rfl (ya rfl ?_)))));refine WS.nil (k _ _ ?_);refine ⟨rfl,b,c,a,q9.g7 rfl ?_ (q9.g7 rfl ?_ ?_)⟩
  · first|(simp_all;done)|(refine decide_eq_decide.2 ?_;omega)|(refine (decide_eq_true ?_).symm;omega)|(refine (decide_eq_false ?_).symm;omega)|(refine decide_eq_decide.2 ?_;simp_all;done)
  · first|(simp_all;done)|(refine decide_eq_decide.2 ?_;omega)|(refine (decide_eq_true ?_).symm;omega)|(refine (decide_eq_false ?_).symm;omega)|(refine decide_eq_decide.2 ?_;simp_all;done)
  (repeat (first|exact q9.nil|refine q9.cons rfl ?_))
 rintro _ z wJ ⟨rfl,b,c,a,h⟩;refine CW.sub h ?_;refine zc λ_ a1=>CW.block ?_;refine CW.anx (λD z w'=>D=[]/\BK w' b2 85 s.cells/\BK w' Z 34 [.int .i64 f,.int .i64 e]/\Chg [] w w'/\q9 [(32,.bool (decide ((0<s.na/\f=0)\/(0<s.up/\0<s.dn/\e=0)))),(6,.bool (decide (0<s.up/\e=0))),(7,.bool (decide (0<s.dn/\e=0))),(2,.pointer (some ⟨b2,0,none⟩)),(3,.pointer (some ⟨Z,0,none⟩))] z) ?_ ?_
 ·refine CW.oJ 32 (decide (0<s.na/\f=0)) ?_ ?_
  ·refine zS λ_ n=>zf rfl (zl b rfl rfl (zG rfl rfl (zm rfl ?_)));refine zb ?_ ?_<;>intro a7<;>try simp only[qs] at a7
   ·refine zw rfl (zf rfl (zw rfl (zl c rfl rfl (zw rfl (zq rfl rfl (zt rfl rfl (za rfl (zz (n ?_)))))))));refine ⟨rfl,rfl,q9.g7 rfl ?_ ?_⟩
    ·first|(simp_all;done)|(refine decide_eq_decide.2 ?_;omega)|(refine (decide_eq_true ?_).symm;omega)|(refine (decide_eq_false ?_).symm;omega)|(refine decide_eq_decide.2 ?_;simp_all;done)
    exact SMg
   refine zv rfl (zv rfl (zv rfl (ze rfl rfl (za rfl (zz (n ?_))))));refine ⟨rfl,rfl,q9.g7 rfl ?_ ?_⟩
   ·first|(simp_all;done)|(refine decide_eq_decide.2 ?_;omega)|(refine (decide_eq_true ?_).symm;omega)|(refine (decide_eq_false ?_).symm;omega)|(refine decide_eq_decide.2 ?_;simp_all;done)
   exact SMg
  refine zy rfl ?_ ?_<;>intro x<;>try simp only[qs] at x
  ·have Y:0<s.na/\f=0:=x
   refine zkk ?_;refine ⟨rfl,b,c,a,q9.g7 rfl ?_ ?_⟩
   · first|exact (decide_eq_true (.inl Y)).symm|(simp_all;done)|(refine decide_eq_decide.2 ?_;omega)|(refine (decide_eq_true ?_).symm;omega)|(refine (decide_eq_false ?_).symm;omega)
   (repeat (first|exact q9.nil|refine q9.cons rfl ?_))
  have Y : ¬(0<s.na/\f=0):=x;refine zS λ_ m=>zm rfl (zm rfl ?_);refine zb ?_ ?_<;>intro a6<;>try simp only[qs] at a6
  ·refine zw rfl (zm rfl (zt rfl rfl (za rfl (zz (m ?_)))));refine ⟨rfl,b,c,a,q9.g7 rfl ?_ ?_⟩
   · first|exact (decide_eq_true (.inl Y)).symm|(simp_all;done)|(refine decide_eq_decide.2 ?_;omega)|(refine (decide_eq_true ?_).symm;omega)|(refine (decide_eq_false ?_).symm;omega)
   (repeat (first|exact q9.nil|refine q9.cons rfl ?_))
  refine zv rfl (ze rfl rfl (za rfl (zz (m ?_))));refine ⟨rfl,b,c,a,q9.g7 rfl ?_ ?_⟩
  · first|exact (decide_eq_true (.inl Y)).symm|(simp_all;done)|(refine decide_eq_decide.2 ?_;omega)|(refine (decide_eq_true ?_).symm;omega)|(refine (decide_eq_false ?_).symm;omega)
  (repeat (first|exact q9.nil|refine q9.cons rfl ?_))
 rintro _ z wJ ⟨rfl,b,c,a,h⟩;refine CW.sub h ?_;refine zy rfl ?_ ?_<;>intro t<;>try simp only[qs] at t
 ·have U:(0<s.na/\f=0)\/(0<s.up/\0<s.dn/\e=0):=t
  refine Sr λ_ I=>?_;refine WL.call hasF77 rfl rfl (NaN_spec _) λv w3 l=>?_;obtain ⟨rfl,rfl⟩:=l;refine za rfl (za rfl (zz (I ?_)));refine zr (zr2 rfl rfl rfl ?_);refine ⟨?_,a⟩;unfold lQ;rw[if_neg g,if_pos U];rfl
 have U : ¬((0<s.na/\f=0)\/(0<s.up/\0<s.dn/\e=0)):=t;refine Sr λ_ H=>zm rfl (za rfl (zz (H ?_)));refine zy rfl ?_ ?_<;>intro j<;>try simp only[qs] at j
 ·have X:0<s.up/\e=0:=j
  refine Sr λ_ G=>?_;refine WL.call hasF138 rfl rfl (Inf_spec 1 _) λv w4 l=>?_;obtain ⟨rfl,rfl⟩:=l;refine za rfl (za rfl (zz (G ?_)));refine zr (zr2 rfl rfl rfl ?_);refine ⟨?_,a⟩;unfold lQ;rw[if_neg g,if_neg U,if_pos X];rfl
 have X : ¬(0<s.up/\e=0):=j;refine Sr λ_ F=>zm rfl (za rfl (zz (F ?_)));refine zy rfl ?_ ?_<;>intro i<;>try simp only[qs] at i
 ·have h4:0<s.dn/\e=0:=i
  refine Sr λ_ C=>?_;refine WL.call hasF138 rfl rfl (Inf_spec (-1) _) λv w5 l=>?_;obtain ⟨rfl,rfl⟩:=l;refine za rfl (za rfl (zz (C ?_)));refine zr (zr2 rfl rfl rfl ?_);refine ⟨?_,a⟩;unfold lQ;rw[if_neg g,if_neg U,if_neg X,if_pos h4];rfl
 have h4 : ¬(0<s.dn/\e=0):=i;refine zkk (a1 (Sr λ_ B=>za rfl (za rfl (zz (B ?_)))));refine zr (zr2 rfl rfl rfl ?_);refine ⟨?_,a⟩;unfold lQ;rw[if_neg g,if_neg U,if_neg X,if_neg h4];rfl
theorem b2x(s:SP)(mode:Int)(w:World)(G:s.le 1000000000000000):Ret Tryz.prog 75 [.agg [.int .i64 (s.na:Int),.int .i64 (s.up:Int),.int .i64 (s.dn:Int),.int .i64 (s.mi:Int),.int .i64 (s.pl:Int),.int .i64 (s.al:Int)].toArray,.int .i64 mode] w λu w'=>u = .float .f64 (acj s mode)/\Chg [] w w':=by
 have A:=G;obtain ⟨U,T,R,Q,O,M⟩:=G;have c:=crf w;refine zE2 Tryz.func75 rfl ?_;refine Sr λ_ z=>?_;refine zBh rfl rfl rfl c λZ J d I H r c=>?_;refine za rfl (zz (z (Sr λ_ y=>zf rfl (zl d rfl rfl (zf rfl (zl d rfl rfl ?_))))))
 first|refine WL.ev (Ev.dX rfl rfl oO) rfl ?_|refine WL.ev (Ev.sub rfl rfl) rfl ?_
 refine zf rfl (zl d rfl rfl ?_)
 first|refine WL.ev (Ev.dX rfl rfl oO) rfl ?_|refine WL.ev (Ev.sub rfl rfl) rfl ?_
 refine zf rfl (zl d rfl rfl ?_)
 first|refine WL.ev (Ev.dX rfl rfl oO) rfl ?_|refine WL.ev (Ev.sub rfl rfl) rfl ?_
 refine za rfl (zz (y (zc λ_ h=>Sr λ_ g=>zg d rfl ?_)));refine WL.call hasF137 rfl rfl (dnx s _ A) λv Y t=>?_;obtain ⟨rfl,i⟩:=t;have c:=c.ta i;have d:=d.k0 i;refine zm rfl ?_;refine zb ?_ ?_<;>intro j<;>try simp only[qs] at j
 ·have a:cX s:=j
  refine zw rfl (zm rfl (zw rfl (zG rfl rfl (zt rfl rfl (zm rfl ?_)))));refine zb ?_ ?_<;>intro D<;>try simp only[qs] at D
  ·refine zw rfl (zf rfl (zw rfl (zl d rfl rfl (zw rfl (zm rfl (zw rfl (zq rfl rfl (zw rfl (zm rfl ?_)))))))));refine zb ?_ ?_<;>intro C<;>try simp only[qs] at C
   ·refine zv rfl (zv rfl (zv rfl (zv rfl (zv rfl (zu rfl (zu rfl (zv rfl (zw rfl (zt rfl rfl (zt rfl rfl (zz (g ?_))))))))))));refine CW.nZ rfl ?_
    refine Sr λ_ x=>?_;refine WL.call hasF140 rfl rfl (cdx _) λv X t=>?_;obtain ⟨rfl,rfl⟩:=t;refine za rfl (zz (x ?_));refine zr (zr1 rfl rfl ?_);refine ⟨?_,c⟩;unfold acj
    first|(have b : ¬cX s:=a;rw[if_neg (λq=>b q.1)];done)|((have b:cX s:=a);(have e:s.na+s.up+s.dn<s.al:=by omega);(have f:s.mi+s.na+s.up+s.dn=s.al\/s.pl+s.na+s.up+s.dn<s.al/\mode=3:=by (first|exact .inl oO|exact .inr ⟨by omega,by omega⟩));rw[if_pos ⟨b,e,f⟩];done)|(rw[if_neg (λq=>by have k:=q.2;omega)];done)
   refine zw rfl (zf rfl (zw rfl (zl d rfl rfl (zw rfl (zm rfl (zw rfl (zL rfl rfl (zw rfl (zm rfl ?_)))))))));refine zb ?_ ?_<;>intro B<;>try simp only[qs] at B
   ·refine zw rfl (zm rfl (zw rfl (zq rfl rfl (zw rfl (zt rfl rfl (zw rfl (ze rfl rfl (zt rfl rfl (zz (g ?_))))))))));refine zy rfl ?_ ?_<;>intro F<;>try simp only[qs] at F
    ·refine Sr λ_ p=>?_
     refine WL.call hasF140 rfl rfl (cdx _) λv V t=>?_;obtain ⟨rfl,rfl⟩:=t;refine za rfl (zz (p ?_));refine zr (zr1 rfl rfl ?_);refine ⟨?_,c⟩;unfold acj
     first|(have b : ¬cX s:=a;rw[if_neg (λq=>b q.1)];done)|((have b:cX s:=a);(have e:s.na+s.up+s.dn<s.al:=by omega);(have f:s.mi+s.na+s.up+s.dn=s.al\/s.pl+s.na+s.up+s.dn<s.al/\mode=3:=by (first|exact .inl oO|exact .inr ⟨by omega,by omega⟩));rw[if_pos ⟨b,e,f⟩];done)|(rw[if_neg (λq=>by have k:=q.2;omega)];done)
    refine zkk (h (Sr λ_ o=>za rfl (zz (o ?_))));refine zr (zr1 rfl rfl ?_);refine ⟨?_,c⟩;unfold acj
    first|(have b : ¬cX s:=a;rw[if_neg (λq=>b q.1)];done)|((have b:cX s:=a);(have e:s.na+s.up+s.dn<s.al:=by omega);(have f:s.mi+s.na+s.up+s.dn=s.al\/s.pl+s.na+s.up+s.dn<s.al/\mode=3:=by (first|exact .inl oO|exact .inr ⟨by omega,by omega⟩));rw[if_pos ⟨b,e,f⟩];done)|(rw[if_neg (λq=>by have k:=q.2;omega)];done)
   refine zv rfl (zv rfl (zw rfl (ze rfl rfl (zw rfl (ze rfl rfl (zt rfl rfl (zz (g ?_))))))));refine CW.oX rfl ?_;refine zkk (h (Sr λ_ n=>za rfl (zz (n ?_))));refine zr (zr1 rfl rfl ?_);refine ⟨?_,c⟩;unfold acj
   first|(have b : ¬cX s:=a;rw[if_neg (λq=>b q.1)];done)|((have b:cX s:=a);(have e:s.na+s.up+s.dn<s.al:=by omega);(have f:s.mi+s.na+s.up+s.dn=s.al\/s.pl+s.na+s.up+s.dn<s.al/\mode=3:=by (first|exact .inl oO|exact .inr ⟨by omega,by omega⟩));rw[if_pos ⟨b,e,f⟩];done)|(rw[if_neg (λq=>by have k:=q.2;omega)];done)
  refine zv rfl (zv rfl (zv rfl (zv rfl (zv rfl (zu rfl (zu rfl (zu rfl (zu rfl (zu rfl (zu rfl (zu rfl (zu rfl (zv rfl (ze rfl rfl (zz (g ?_))))))))))))))));refine CW.oX rfl ?_;refine zkk (h (Sr λ_ m=>za rfl (zz (m ?_))));refine zr (zr1 rfl rfl ?_);refine ⟨?_,c⟩;unfold acj
  first|(have b : ¬cX s:=a;rw[if_neg (λq=>b q.1)];done)|((have b:cX s:=a);(have e:s.na+s.up+s.dn<s.al:=by omega);(have f:s.mi+s.na+s.up+s.dn=s.al\/s.pl+s.na+s.up+s.dn<s.al/\mode=3:=by (first|exact .inl oO|exact .inr ⟨by omega,by omega⟩));rw[if_pos ⟨b,e,f⟩];done)|(rw[if_neg (λq=>by have k:=q.2;omega)];done)
 have a : ¬cX s:=j;refine zv rfl (zv rfl (ze rfl rfl (zm rfl (zv rfl (zv rfl (zv rfl (zv rfl (zv rfl (zu rfl (zu rfl (zu rfl (zu rfl (zu rfl (zu rfl (zu rfl (zu rfl (zv rfl (ze rfl rfl (zz (g ?_))))))))))))))))))));refine CW.oX rfl ?_;refine zkk (h (Sr λ_ l=>za rfl (zz (l ?_))));refine zr (zr1 rfl rfl ?_);refine ⟨?_,c⟩;unfold acj
 first|(have b : ¬cX s:=a;rw[if_neg (λq=>b q.1)];done)|((have b:cX s:=a);(have e:s.na+s.up+s.dn<s.al:=by omega);(have f:s.mi+s.na+s.up+s.dn=s.al\/s.pl+s.na+s.up+s.dn<s.al/\mode=3:=by (first|exact .inl oO|exact .inr ⟨by omega,by omega⟩));rw[if_pos ⟨b,e,f⟩];done)|(rw[if_neg (λq=>by have k:=q.2;omega)];done)
structure NF(w:World)(v:Value)(l:List Nat):Prop where
  ex : ∃ a c,v = .slice a l.length c/\l.length<=c/\RW w a (l.map bix)
  hw : ∀ x∈l,x<18446744073709551616
  len:l.length<=70368744177664
theorem NF.part{w:World}{a:Option Addr}{l:List Nat}{k c:Nat}(h:RW w a (l.map bix))(b : ∀ x∈l.take k,x<18446744073709551616)(d:l.length<=70368744177664)(f:k<=l.length)(g:k<=c):NF w (.slice a k c) (l.take k):=by
  have e:(l.take k).length=k:=by rw[List.length_take];omega
  refine ⟨⟨a,c,by rw[e],by omega,?_⟩,b,by omega⟩
  rw[List.map_take]
  exact h.take k
theorem D_getD{l:List Nat}(h : ∀ x∈l,x<18446744073709551616)(i:Nat):l.getD i 0<18446744073709551616:=by
  rw[List.getD_eq_getElem?_getD]
  cases q:l[i]? with
  | none=>simp
  | some x=>exact h x (List.mem_of_getElem? q)
def finP(x:Nat):Bool:=decide (k7 x<=2)
def bhj(l:List Nat):List Nat:=l.filter finP
def a5q(l:List Nat):SP:=l.foldl (λs x=>countP s (k7 x)) SP.zero
def a0j(l:List Nat)(pn pi:Int):Int:=
  if ¬xJ pn pi then 1 else if 65536<l.length then 2 else if 0<(a5q l).na/\pn=2 then 60 else if 0<(a5q l).up+(a5q l).dn/\pi=2 then 61 else 0
theorem arx{l:List Nat}{i:Nat}(h:i<l.length):l.take (i+1)=l.take i++[l.getD i 0]:=by
  rw[List.take_add_one,List.getD_eq_getElem?_getD,List.getElem?_eq_getElem h];rfl
theorem cntP_step{l:List Nat}{i:Nat}(h:i<l.length):a5q (l.take (i+1))=countP (a5q (l.take i)) (k7 (l.getD i 0)):=by
  unfold a5q;rw[arx h,List.foldl_append];rfl
theorem cntP_le : ∀ (l:List Nat) (s:SP) (n:Nat),s.le n->(l.foldl (λs x=>countP s (k7 x)) s).le (n+l.length)
  | [],s,n,h=>h
  | x::l,s,n,h=>by
    have:=cntP_le l (countP s (k7 x)) (n+1) (countP.le h)
    simpa[Nat.add_assoc,Nat.add_comm 1] using this
theorem cnt_le(l:List Nat):(a5q l).le l.length:=by
  have:=cntP_le l SP.zero 0 (by refine ⟨?_,?_,?_,?_,?_,?_⟩<;>exact Nat.zero_le _)
  rw[Nat.zero_add] at this;exact this
theorem SP.le.mono{s:SP}{n m:Nat}(h:s.le n)(g:n<=m):s.le m:=by
  obtain ⟨a,b,c,d,e,f⟩:=h
  exact ⟨by omega,by omega,by omega,by omega,by omega,by omega⟩
theorem cvq{l:List Nat}{i:Nat}(h:i<l.length):bhj (l.take (i+1))=if k7 (l.getD i 0)<=2 then bhj (l.take i)++[l.getD i 0] else bhj (l.take i):=by
  unfold bhj
  rw[arx h,List.filter_append,List.filter_cons]
  simp only[finP,decide_eq_true_eq,List.filter_nil]
  split<;>simp
theorem filP_len(l:List Nat)(i:Nat):(bhj (l.take i)).length<=i:=by
  unfold bhj
  have:=List.length_filter_le finP (l.take i)
  rw[List.length_take] at this
  omega
theorem set_take{L:List Nat}{m v:Nat}(h:m<L.length):(L.set m v).take (m+1)=L.take m++[v]:=by
  rw[List.take_add_one,List.take_set_of_le (Nat.le_refl _),List.getElem?_set_self h];rfl
structure KSift(l:List Nat)(pn pi:Int)(w0:World)(b3 b5 b7 b23:Nat)(g:Nat×List Nat)(w:World):Prop where
  le:g.1<=l.length
  len:g.2.length=l.length
  tk:g.2.take (bhj (l.take g.1)).length=bhj (l.take g.1)
  h3:BK w b3 34 [.int .i64 pn,.int .i64 pi]
  h5:BK w b5 85 [.int .i64 0,.int .i64 0,.int .i64 0,.int .i64 0,.int .i64 0,.int .i64 0]
  h7:BK w b7 85 (a5q (l.take g.1)).cells
  hF:FB w b23 31 g.2
  ch:Chg [] w0 w
theorem Sift_spec(v:Value)(l:List Nat)(C D:Int)(w:World)(hv:NF w v l):Ret Tryz.prog 68 [v,.agg [.int .i64 C,.int .i64 D].toArray] w λu w'=>(a0j l C D≠0/\u = .tuple [.slice none 0 0,.agg SP.zero.cells.toArray,.int .i64 (a0j l C D)].toArray/\Chg [] w w')\/(a0j l C D=0/\∃ v2,NF w' v2 (bhj l)/\u = .tuple [v2,.agg (a5q l).cells.toArray,.int .i64 0].toArray/\Chg [] w w'):=by
 obtain ⟨⟨al,cl,rfl,g5,O⟩,e6,l4⟩:=hv;have a:=crf w;refine zE2 Tryz.func68 rfl ?_;refine Sr λ_ f9=>?_;refine zBh rfl rfl rfl a λb3 k5 f i3 i2 e2 a=>?_;refine za rfl ?_;refine WL.iQ (l:=[.int .i64 0,.int .i64 0,.int .i64 0,.int .i64 0,.int .i64 0,.int .i64 0]) rfl rfl λb5 k4 b Z Y=>?_;have e1:=Nat.le_trans a.size Y;have a:=a.ta Z;have f1:=zdd f.lt Y;have f:=f.k0 Z;refine za rfl (zz (f9 (Sr λ_ f8=>?_)));refine WL.iQ (l:=[.int .i64 0,.int .i64 0,.int .i64 0,.int .i64 0,.int .i64 0,.int .i64 0]) rfl rfl λb7 k3 d I G=>?_;have e0:=Nat.le_trans a.size G;have a:=a.ta I;have f0:=zdd f.lt G;have f:=f.k0 I;have e9:=zdd b.lt G;have b:=b.k0 I;refine zz (f8 (zc λ_ f7=>CW.block (Sr λ_ f6=>zg f rfl ?_)));refine WL.call hasF129 rfl rfl (dwx C D _) λv w1 h'=>?_;obtain ⟨rfl,A⟩:=h';have a:=a.ta A;have f:=f.k0 A;have b:=b.k0 A;have d:=d.k0 A;refine zT rfl (za rfl (zz (f6 ?_)));refine zy rfl ?_ ?_<;>intro a7<;>try simp only[qs] at a7
 ·have M : ¬xJ C D:=a7
  refine zc λ_ f5=>?_;refine CW.gX 2 4 rfl cJ λl1 f4 R j=>?_;have a:=a.ta j;have b:=b.k0 j;have d:=d.k0 j;have o:=d;refine wk 0 rfl R (λ_ F=>Ev.oQ rfl rfl (o.q5 F) rfl) (wk 1 rfl R (eA rfl) ?_);refine WK.nQ 2 rfl oR oR rfl rfl rfl ao b oS rfl λh8 h a4=>?_;(try simp only[qt] at h);have a:=a.s1 a4;have b:=h;refine WK.after 3 rfl oR oR (Ev.assign rfl) rfl ?_;refine WK.done oR (f4 _ _ _ ?_);refine f5 ?_;refine zr (k8.ckq rfl (aX.tmp rfl) (aX.cell rfl (b.fX rfl rfl)) (aX.tmp rfl) ?_);exact .inl ⟨by unfold a0j;rw[if_pos M];decide,by unfold a0j;rw[if_pos M];rfl,a⟩
 have M : ¬¬xJ C D:=λq=>q a7;refine Sr λ_ d4=>zm rfl (zn rfl (zG rfl rfl (za rfl (zz (d4 ?_)))));refine zy rfl ?_ ?_<;>intro h1<;>try simp only[qs] at h1
 ·have hL:65536<l.length:=by omega
  refine zc λ_ d3=>?_;refine CW.gX 2 4 rfl cJ λi1 b9 R j=>?_;have a:=a.ta j;have b:=b.k0 j;have d:=d.k0 j;have o:=d;refine wk 0 rfl R (λ_ F=>Ev.oQ rfl rfl (o.q5 F) rfl) (wk 1 rfl R (eA rfl) ?_);refine WK.nQ 2 rfl oR oR rfl rfl rfl ao b oS rfl λh7 h a3=>?_;(try simp only[qt] at h);have a:=a.s1 a3;have b:=h;refine WK.after 3 rfl oR oR (Ev.assign rfl) rfl ?_;refine WK.done oR (b9 _ _ _ ?_);refine d3 ?_;refine zr (k8.ckq rfl (aX.tmp rfl) (aX.cell rfl (b.fX rfl rfl)) (aX.tmp rfl) ?_);exact .inl ⟨by unfold a0j;rw[if_neg M,if_pos hL];decide,by unfold a0j;rw[if_neg M,if_pos hL];rfl,a⟩
 have hL : ¬65536<l.length:=by omega
 refine zkk (f7 (Sr λ_ d2=>zm rfl (zn rfl ?_)));refine WL.makeF (0) ((l).length) rfl rfl oO oO oO oO oO rfl λe8 h9 e s p=>?_;have b0:=Nat.le_trans a.size p;have a:=a.ta s;have d9:=zdd f.lt p;have f:=f.k0 s;have d8:=zdd b.lt p;have b:=b.k0 s;have d7:=zdd d.lt p;have d:=d.k0 s;refine za rfl (zz (d2 (zc λ_ d1=>Sr λ_ d0=>zm rfl (zn rfl (zm rfl (zz (d0 (CW.block ?_))))))));refine CW.loop (S:=λg:Nat×List Nat=>[(0,.slice al l.length cl),(3,.pointer (some ⟨b3,0,none⟩)),(4,.slice none 0 0),(5,.pointer (some ⟨b5,0,none⟩)),(6,.int .i64 0),(7,.pointer (some ⟨b7,0,none⟩)),(8,.slice (some ⟨e8,0,none⟩) (bhj (l.take g.1)).length l.length),(25,.int .i64 (l.length:Int)),(26,.int .i64 (g.1:Int))]) (Inv:=KSift l C D w b3 b5 b7 e8) (mu:=λg=>l.length-g.1) ((0,List.replicate l.length 0)) ?_ ?_ ?_
 ·exact ⟨Nat.zero_le _,by simp,by simp[bhj],f,b,d,e,a⟩
 ·exact SLp
 rintro ⟨i,L⟩ wr ⟨g1,a9,B,f,b,d,e,a⟩;dsimp only at g1 a9 B f b d e a;dsimp only;have g4:=filP_len l i;have d6:=D_getD e6 i;have J:=(cnt_le (l.take i)).mono (m:=65536) (by rw[List.length_take];omega);refine Sr λ_ c9=>zL rfl rfl (zz (c9 (zc λ_ c8=>?_)));refine zy rfl ?_ ?_<;>intro h0<;>try simp only[qs] at h0
 ·refine zkk (c8 (zc λ_ V=>CW.block (Sr λ_ c7=>zm rfl (za rfl (zz (c7 (Sr λ_ c6=>zm rfl (zm rfl ?_))))))));refine WL.ev (Ev.ixR (i) rfl rfl (O.q5 a) oO oO oT) rfl ?_
  refine WL.ev (Ev.load rfl rfl ((O.q5 a).f64 oF)) rfl ?_;refine WL.call hasF130 rfl rfl (kind_spec (l.getD i 0) _ d6) λv w2 h'=>?_;obtain ⟨rfl,t⟩:=h';have a:=a.ta t;have f:=f.k0 t;have b:=b.k0 t;have d:=d.k0 t;have e:=e.k0 t;refine za rfl (zz (c6 (Sr λ_ c5=>zm rfl ?_)));refine WL.call hasF131 rfl rfl (count_spec b7 (k7 (l.getD i 0)) (a5q (l.take i)) _ d (J.mono oD)) λv w3 h'=>?_;obtain ⟨e4,z⟩:=h';have a:=a.step z (λy hy=>by simp only[List.mem_singleton] at hy;subst hy;exact .inr oO);have f:=f.gZ z (by simp;try omega);have b:=b.gZ z (by simp;try omega);have e:=e.gZ z (by simp;try omega);have d:=e4;rw[<- cntP_step oO] at d;refine zz (c5 (Sr λ_ c4=>zm rfl (zQ rfl rfl (zz (c4 ?_)))));refine zy rfl ?_ ?_<;>intro g9<;>try simp only[qs] at g9
  ·have Q:k7 (l.getD i 0)<=2:=by omega
   refine zR λ_ b8=>?_;refine zm rfl (zm rfl (zm rfl ?_));refine WL.ev (Ev.ixR (i) rfl rfl (O.q5 a) oO oO oT) rfl ?_;refine WL.ev (Ev.load rfl rfl ((O.q5 a).f64 oF)) rfl ?_;refine WL.buildSlice (m:=1) (cs:=[bix (l.getD i 0)]) oD oD rfl oR rfl λh3 f3 X=>?_;have n:=X.chg;have e5:BK f3 h3 31 [bix (l.getD i 0)]:=X.at_;have a:=a.ta n;have f:=f.gZ n (by simp;try omega);have b:=b.gZ n (by simp;try omega);have d:=d.gZ n (by simp;try omega);have e:=e.gZ n (by simp;try omega);refine WL.appendF (v:=l.getD i 0) rfl rfl e (e5.at_ rfl) oO oO rfl λl0 a8 r=>?_;have a:=a.step r (λy hy=>by simp only[List.mem_singleton] at hy;subst hy;exact .inr oO);have f:=f.gZ r (by simp;try omega);have b:=b.gZ r (by simp;try omega);have d:=d.gZ r (by simp;try omega);have e:=a8;rw[show (bhj (l.take i)).length+1=(bhj (l.take (i+1))).length by rw[cvq oO,if_pos Q];simp];refine za rfl ?_;refine WL.nil (b8 _ _ _ (V ?_));refine zS λ_ b6=>?_;(first|refine zi rfl rfl ?_|refine zo rfl rfl ?_);refine zm rfl (zz (b6 ?_));refine ⟨rfl,(i+1,L.set (bhj (l.take i)).length (l.getD i 0)),?_,?_,?_⟩
   ·exact SLp
   ·exact ⟨by dsimp only;omega,by simpa using a9,by dsimp only;rw[cvq oO,if_pos Q,List.length_append];show List.take _ _=_;rw[show [l.getD i 0].length=1 from rfl,set_take oO,B],f,b,d,e,a⟩
   show l.length-(i+1)<l.length-i;omega
  have Q : ¬k7 (l.getD i 0)<=2:=by omega
  have e3:bhj (l.take (i+1))=bhj (l.take i):=by rw[cvq oO,if_neg Q]
  refine zkk (V (zS λ_ b4=>?_));(first|refine zi rfl rfl ?_|refine zo rfl rfl ?_);refine zm rfl (zz (b4 ?_));refine ⟨rfl,(i+1,L),?_,?_,?_⟩
  ·rw[<- e3];repeat (first|exact q9.nil|refine q9.cons rfl ?_|refine q9.consI rfl oO ?_)
  ·exact ⟨by dsimp only;omega,a9,by dsimp only;rw[e3];exact B,f,b,d,e,a⟩
  show l.length-(i+1)<l.length-i;omega
 have g0:i=l.length:=by omega
 subst g0;rw[List.take_length] at d J B g4;rw[List.take_length];unfold SP.cells at d;obtain ⟨i9,i8,i7,i6,i5,i4⟩:=J;refine CW.exit ?_;refine d1 (zc λ_ c3=>CW.block ?_);refine CW.oJ 46 (decide (0<(a5q l).na/\C=2)) ?_ ?_
 ·refine zS λ_ U=>zf rfl (zl d rfl rfl (zG rfl rfl (zm rfl ?_)));refine zb ?_ ?_<;>intro g3<;>try simp only[qs] at g3
  ·refine zw rfl (zf rfl (zw rfl (zl f rfl rfl (zw rfl (zq rfl rfl (zt rfl rfl (za rfl (zz (U ?_)))))))));refine ⟨rfl,rfl,q9.g7 rfl ?_ ?_⟩
   ·first|(simp;omega)|(refine decide_eq_decide.2 ?_;omega)
   exact SMg
  refine zv rfl (zv rfl (zv rfl (ze rfl rfl (za rfl (zz (U ?_))))));refine ⟨rfl,rfl,q9.g7 rfl ?_ ?_⟩
  ·first|(simp;omega)|(refine decide_eq_decide.2 ?_;omega)
  exact SMg
 refine zy rfl ?_ ?_<;>intro a6<;>try simp only[qs] at a6
 ·have hA:0<(a5q l).na/\C=2:=a6
  refine Sr λ_ c2=>?_;refine WL.ev (Ev.build (vs:=_) (cs:=[_,_,_,_,_,_]) rfl rfl) rfl ?_;refine za rfl ?_;refine zss rfl rfl ao b rfl λh6 h a2=>?_;(try simp only[qt] at h);have a:=a.s1 a2;have b:=h;refine za rfl (zz (c2 ?_));refine zr (k8.ckq rfl (aX.tmp rfl) (aX.cell rfl (b.fX rfl rfl)) (aX.tmp rfl) ?_);exact .inl ⟨by unfold a0j;rw[if_neg M,if_neg hL,if_pos hA];decide,by unfold a0j;rw[if_neg M,if_neg hL,if_pos hA];rfl,a⟩
 have hA : ¬(0<(a5q l).na/\C=2):=a6;refine CW.oJ 56 (decide (0<(a5q l).up+(a5q l).dn/\D=2)) ?_ ?_
 ·refine zS λ_ T=>zf rfl (zl d rfl rfl (zf rfl (zl d rfl rfl ?_)));(first|refine zi rfl rfl ?_|refine zo rfl rfl ?_);refine zG rfl rfl (zm rfl ?_);refine zb ?_ ?_<;>intro g2<;>try simp only[qs] at g2
  ·refine zw rfl (zf rfl (zw rfl (zl f rfl rfl (zw rfl (zq rfl rfl (zt rfl rfl (za rfl (zz (T ?_)))))))));refine ⟨rfl,rfl,q9.g7 rfl ?_ ?_⟩
   ·first|(simp;omega)|(refine decide_eq_decide.2 ?_;omega)
   exact SMg
  refine zv rfl (zv rfl (zv rfl (ze rfl rfl (za rfl (zz (T ?_))))));refine ⟨rfl,rfl,q9.g7 rfl ?_ ?_⟩
  ·first|(simp;omega)|(refine decide_eq_decide.2 ?_;omega)
  exact SMg
 refine zy rfl ?_ ?_<;>intro a5<;>try simp only[qs] at a5
 ·have hB:0<(a5q l).up+(a5q l).dn/\D=2:=a5
  refine Sr λ_ c1=>?_;refine WL.ev (Ev.build (vs:=_) (cs:=[_,_,_,_,_,_]) rfl rfl) rfl ?_;refine za rfl ?_;refine zss rfl rfl ao b rfl λh5 h a1=>?_;(try simp only[qt] at h);have a:=a.s1 a1;have b:=h;refine za rfl (zz (c1 ?_));refine zr (k8.ckq rfl (aX.tmp rfl) (aX.cell rfl (b.fX rfl rfl)) (aX.tmp rfl) ?_);exact .inl ⟨by unfold a0j;rw[if_neg M,if_neg hL,if_neg hA,if_pos hB];decide,by unfold a0j;rw[if_neg M,if_neg hL,if_neg hA,if_pos hB];rfl,a⟩
 have hB : ¬(0<(a5q l).up+(a5q l).dn/\D=2):=a5;refine zkk (c3 (zc λ_ c0=>?_));refine CW.gX 3 5 rfl cJ λi0 b2 R j=>?_;have a:=a.ta j;have b:=b.k0 j;have d:=d.k0 j;have e:=e.k0 j;have o:=d;refine wk 0 rfl R (eM rfl) (wk 1 rfl R (λ_ F=>Ev.oQ rfl rfl (o.q5 F) rfl) (wk 2 rfl R (eA rfl) ?_));refine WK.nQ 3 rfl oR oR rfl rfl rfl ao b oS rfl λh4 h H=>?_;(try simp only[qt] at h);have a:=a.s1 H;have e:=e.kq H;have b:=h;refine WK.after 4 rfl oR oR (Ev.assign rfl) rfl ?_;refine WK.done oR (b2 _ _ _ ?_);refine c0 ?_;refine zr (k8.ckq rfl (aX.tmp rfl) (aX.cell rfl (b.fX rfl rfl)) (aX.tmp rfl) ?_);refine .inr ⟨by unfold a0j;rw[if_neg M,if_neg hL,if_neg hA,if_neg hB],_,?_,rfl,a⟩;have:=NF.part e.row (by rw[B];exact λx hx=>e6 x (List.mem_filter.1 hx).1) oO (k:=(bhj l).length) oO (c:=l.length) oO;rw[B] at this;exact this
end
section
open Wd
set_option exponentiation.threshold 5000
def tv:List Nat->Nat
  | []=>0
  | a::l=>a+18446744073709551616*tv l
def W64(l:List Nat):Prop:=∀ x∈l,x<18446744073709551616
def trm(W:List Nat)(at_:Nat):Nat->Nat
  | 0=>0
  | k+1=>trm W at_ k+W.getD k 0*18446744073709551616^(at_+k)
structure MvA(L W:List Nat)(at_:Nat)(C:List Nat)(c i:Nat):Prop where
  len:C.length=L.length
  w:W64 C
  lo:at_<=i
  hi:i<=L.length
  c1:c<=1
  eq:tv C+c*18446744073709551616^i=tv L+trm W at_ (i-at_)
structure MvS(L W:List Nat)(at_:Nat)(C:List Nat)(c i:Nat):Prop where
  len:C.length=L.length
  w:W64 C
  lo:at_<=i
  hi:i<=L.length
  c1:c<=1
  eq:tv C+trm W at_ (i-at_)=tv L+c*18446744073709551616^i
def laidW(hi lo by_:Nat):List Nat:=[lo*2^by_%18446744073709551616,(hi*2^by_%18446744073709551616)||| (lo/2^(64-by_)),hi/2^(64-by_)]
theorem laid_or{a lo k:Nat}(h:lo<18446744073709551616)(g:k<64):(a*2^k%18446744073709551616)||| (lo/2^(64-k))=a*2^k%18446744073709551616+lo/2^(64-k):=by
  have e:(18446744073709551616:Nat)=2^(64-k)*2^k:=by rw[<- Nat.pow_add,show 64-k+k=64 by omega]
  have f:=Nat.two_pow_pos k
  have b:=Nat.two_pow_pos (64-k)
  have d:a*2^k%18446744073709551616=a%2^(64-k)*2^k:=by rw[e,Nat.mul_mod_mul_right]
  have c:lo/2^(64-k)<2^k:=by
    rw[Nat.div_lt_iff_lt_mul b,Nat.mul_comm,<- e];exact h
  rw[d,Nat.or_comm,agj c,Nat.add_comm]
theorem laidW_val{c lo k:Nat}(h:lo<18446744073709551616)(g:k<64):tv (laidW c lo k)=(c*18446744073709551616+lo)*2^k:=by
  have e:(18446744073709551616:Nat)=2^(64-k)*2^k:=by rw[<- Nat.pow_add,show 64-k+k=64 by omega]
  simp only[laidW,tv,laid_or h g]
  have d:c*2^k%18446744073709551616+18446744073709551616*(c/2^(64-k))=c*2^k:=by
    have d:c*2^k%18446744073709551616=c%2^(64-k)*2^k:=by rw[e,Nat.mul_mod_mul_right]
    have:=Nat.mod_add_div c (2^(64-k))
    rw[d]
    calc _=(c%2^(64-k)+2^(64-k)*(c/2^(64-k)))*2^k:=by rw[Nat.add_mul];congr 1;rw[e];ac_rfl
      _=_:=by rw[this]
  have f:lo*2^k%18446744073709551616+18446744073709551616*(lo/2^(64-k))=lo*2^k:=by
    have d:lo*2^k%18446744073709551616=lo%2^(64-k)*2^k:=by rw[e,Nat.mul_mod_mul_right]
    have:=Nat.mod_add_div lo (2^(64-k))
    rw[d]
    calc _=(lo%2^(64-k)+2^(64-k)*(lo/2^(64-k)))*2^k:=by rw[Nat.add_mul];congr 1;rw[e];ac_rfl
      _=_:=by rw[this]
  rw[Nat.add_mul]
  generalize c/2^(64-k)=p at d ⊢
  generalize lo/2^(64-k)=q at f ⊢
  generalize lo*2^k%18446744073709551616=r at f ⊢
  generalize c*2^k%18446744073709551616=t at d ⊢
  rw[show c*18446744073709551616*2^k=18446744073709551616*(c*2^k) by ac_rfl]
  generalize c*2^k=a at d ⊢
  generalize lo*2^k=b at f ⊢
  omega
structure MinI(L C:List Nat)(c i:Nat):Prop where
  len:C.length=L.length
  w:W64 C
  hi:i<=L.length
  c1:c<=1
  same : ∀ j,i<=j->C.getD j 0=L.getD j 0
  eq:tv C+c*18446744073709551616^i+2*tv (L.take i)=tv L+18446744073709551616^i
end
section
open Go Sx Wd
set_option exponentiation.threshold 5000
theorem ceq{x:Nat}(h:(j0 x).cls=1\/(j0 x).cls=2): -1074<=(j0 x).exp/\(j0 x).exp<=971/\0<(j0 x).frac/\(j0 x).frac<9007199254740992:=by
  revert h
  unfold j0
  split
  · intro h;simp at h
  split
  · intro h;simp at h
  split
  · intro h;dsimp only;omega
  split
  · intro h;dsimp only;omega
  · intro h;simp at h
theorem splitP_cls(x:Nat):(j0 x).cls<=4:=by
  unfold j0
  split
  · simp
  split
  · simp
  split
  · simp
  split<;>simp
structure TH where
  cls:Nat
  neg:Bool
  tn:Bool
  at_:Nat
  W:List Nat
end
section
open Go Sx Wd
set_option exponentiation.threshold 5000
end
section
open Go Sx Wd
set_option exponentiation.threshold 5000
def MvR(sub:Bool)(L W:List Nat)(a_:Nat)(C:List Nat):Prop:=
  (sub=false->∃ c,c<=1/\tv C+c*18446744073709551616^67=tv L+tv W*18446744073709551616^a_)/\(sub=true->∃ c,c<=1/\tv C+tv W*18446744073709551616^a_=tv L+c*18446744073709551616^67)
structure MvI(sub:Bool)(L W:List Nat)(a_:Nat)(C:List Nat)(c i:Nat):Prop where
  a:sub=false->MvA L W a_ C c i
  s:sub=true->MvS L W a_ C c i
end
section
open Go Sx Wd
set_option exponentiation.threshold 5000
def BB:Nat:=18446744073709551616^66
def MM:Nat:=18446744073709551616^67
structure Rep(L:List Nat)(S:Int):Prop where
  len:L.length=67
  w:W64 L
  eq:(tv L:Int)=S%(MM:Int)
end
section
open Go Sx Wd
set_option exponentiation.threshold 5000
section
variable {P:Program} {s:Sl} {w:World} {ty:TypeId} {x q:Operand}
end
end
section
open Go Sx Wd
set_option exponentiation.threshold 5000
end
section
open Go Sx Wd
set_option exponentiation.threshold 5000
end
section
open Go Sx Wd
set_option exponentiation.threshold 5000
def thv(t:TH):Int:=if t.cls=1\/t.cls=2 then (if t.tn=true then -((tv t.W*18446744073709551616^t.at_:Nat):Int) else ((tv t.W*18446744073709551616^t.at_:Nat):Int)) else 0
end
section
open Go Sx Wd
set_option exponentiation.threshold 5000
end
section
open Go Sx Wd
set_option exponentiation.threshold 5000
end
section
open Go Sx Wd
set_option exponentiation.threshold 5000
def dkx(x y:Nat):TH:=
  if (j0 x).cls=4\/(j0 y).cls=4\/(min (j0 x).cls (j0 y).cls=0/\max (j0 x).cls (j0 y).cls=3) then ⟨4,false,false,0,[0,0,0]⟩
  else if (j0 x).cls=3\/(j0 y).cls=3 then ⟨3,(j0 x).neg != (j0 y).neg,false,0,[0,0,0]⟩
  else if (j0 x).cls=0\/(j0 y).cls=0 then ⟨0,(j0 x).neg != (j0 y).neg,false,0,[0,0,0]⟩
  else ⟨2,(j0 x).neg != (j0 y).neg,(j0 x).neg != (j0 y).neg,((j0 x).exp+(j0 y).exp+2148).toNat/64,laidW ((j0 x).frac*(j0 y).frac/18446744073709551616) ((j0 x).frac*(j0 y).frac%18446744073709551616) (((j0 x).exp+(j0 y).exp+2148).toNat%64)⟩
end
section
open Go Sx Wd
set_option exponentiation.threshold 5000
end
section
open Go Sx Wd
set_option exponentiation.threshold 5000
theorem cdq{n k K:Nat}(h:n<2^k)(a:k<=32*K):(wd n).length<=K:=aQ.2 (Nat.lt_of_lt_of_le h (Nat.pow_le_pow_right oD a))
def dJ(S:Int):Dy:=(cQ (decide (S<0)) S.natAbs (-2148)).getD Dy.zero
theorem c4q{S:Int}(g : -((16384*BB:Nat):Int)<S)(f:S<(16384*BB:Nat))(neg:Bool):cQ neg S.natAbs (-2148)=some (if S=0 then Dy.zero else ⟨neg,S.natAbs/2^tz S.natAbs,-2148+tz S.natAbs⟩):=by
  by_cases h0:S=0
  · subst h0;rfl
  · have b:S.natAbs≠0:=by omega
    have a:S.natAbs<2^4238:=by
      have:16384*BB=2^4238:=by unfold BB;rw[show (18446744073709551616:Nat)=2^64 from rfl,<- Nat.pow_mul,show (16384:Nat)=2^14 from rfl,<- Nat.pow_add]
      rw[<- this];omega
    have d:=uJ.2 a
    have c:=yJ b
    rw[if_neg h0,sZ b]
    have e:(wd (S.natAbs/2^tz S.natAbs)).length<=8192:=cdq (Nat.lt_of_le_of_lt (Nat.div_le_self _ _) a) oO
    omega
end
section
open Go Sx Wd
set_option exponentiation.threshold 5000
theorem wd_len_lift{q y k:Nat}(h:(wd q).length<=k)(a:y<=32*k):(wd (2*(q*2^y))).length<=2*k+1:=by
  rw[aQ] at h ⊢
  have b:q*2^y<2^(32*k)*2^(32*k):=Nat.lt_of_lt_of_le (Nat.mul_lt_mul_of_pos_right h (Nat.two_pow_pos _)) (Nat.mul_le_mul_left _ (Nat.pow_le_pow_right oD a))
  rw[<- Nat.pow_add] at b
  have c:2*2^(32*k+32*k)<=2^(32*(2*k+1)):=by
    rw[<- Nat.pow_succ'];exact Nat.pow_le_pow_right oD oO
  omega
theorem lJ{n k:Nat}(h:n<2^k)(a:k<=262144):(wd n).length<=8192:=cdq h oO
theorem bl_len{n k:Nat}(h:(wd n).length<=k):bl n<=32*k:=uJ.2 (aQ.1 h)
theorem dtx{n k:Nat}(h:n<2^k):bl n<=k:=uJ.2 h
def aaj(m:Nat)(cut:Bool):Nat:=2*m+if cut then 1 else 0
def ahq(e:Int):Int:=max (-3000) (min 3000 (e-1))
theorem eax{m:Nat}{cut:Bool}(h:m<2^82):aaj m cut<2^84:=by unfold aaj;cases cut<;>simp<;>omega
theorem chq{neg:Bool}{m:Nat}{cut:Bool}{e:Int}(h:m<2^82): ∃ d,cQ neg (aaj m cut) (ahq e)=some d:=by
  have a:=eax (cut:=cut) h
  by_cases h0:aaj m cut=0
  · rw[h0];exact ⟨_,rfl⟩
  · have b:=yJ h0
    have c:=dtx a
    have f:=lJ (Nat.lt_of_le_of_lt (Nat.div_le_self _ (2^tz (aaj m cut))) a) oD
    refine ⟨_,sZ h0 ?_⟩
    unfold ahq
    omega
def awq(neg:Bool)(m:Nat)(cut:Bool)(e:Int):Dy:=(cQ neg (aaj m cut) (ahq e)).getD Dy.zero
theorem about_spec(neg:Bool)(v:Value)(m:Nat)(cut:Bool)(e:Int)(w:World)(h:NU w v (wd m))(hg:GW w)(hm:m<2^82)(he : -1099511627776<=e/\e<=1099511627776):Ret Tryz.prog 269 [.bool neg,v,.bool cut,.int .i64 e] w λu w'=>DY w' u (awq neg m cut e)/\Chg [] w w':=by
 have a:=crf w;have b1:=dtx hm;have R:=lJ hm oD;obtain ⟨dd,V⟩:=chq (neg:=neg) (cut:=cut) (e:=e) hm;have Z:=eax (cut:=cut) hm;have U:=hg;refine zE4 Tryz.func269 rfl ?_;refine Sr λ_ a6=>?_;refine zAh rfl rfl a λb8 b6 b X b0 T a=>?_;have h:=h.q5 X;refine zz (a6 (Sr λ_ a5=>zm rfl ?_));refine WL.call hasF167 rfl rfl (aqx _ _ 1 _ h oO) λv w1 n=>?_;obtain ⟨n,H⟩:=n;rw[g6,show a7q m 1=m*2^1 from apq m 1] at n;obtain ⟨_,c0,rfl,p⟩:=n.resolve_right (λq=>q.1 ⟨R,.inr oO⟩);have a:=a.ta H;have b:=b.k0 H;refine zm rfl (zx rfl rfl (zx rfl rfl (za rfl (zz (a5 (zc λ_ J=>Sr λ_ a4=>zm rfl (zz (a4 ?_))))))));refine zy rfl ?_ ?_<;>intro I<;>try simp only[qs] at I
 ·have a7:cut=true:=I
  refine zR λ_ a2=>?_;refine zm rfl ?_;refine WL.call hasF134 rfl rfl (b8x 1 _ oD) λv w2 n=>?_;obtain ⟨Y,B⟩:=n;have a:=a.ta B;have b:=b.k0 B;have p:=p.q5 B;refine WL.call hasF274 rfl rfl (dwj _ _ _ _ _ p Y) λv w3 n=>?_;obtain ⟨n,G⟩:=n;rw[g6,g6,show m*2^1+1=aaj m cut by unfold aaj;rw[a7,if_pos rfl];omega] at n;obtain ⟨_,_,_,b7,rfl,o⟩:=n.resolve_right (λq=>q.1 ⟨lJ (k:=84) oO oD,lJ (k:=84) oD oD,lJ Z oD⟩);have a:=a.ta G;have b:=b.k0 G;refine zm rfl (zx rfl rfl (zx rfl rfl (za rfl ?_)));refine WL.nil (a2 _ _ _ (J ?_));refine Sr λ_ a3=>zm rfl (zm rfl (zm rfl ?_));refine WL.ev (Ev.dX rfl rfl oO) rfl ?_;refine WL.ev (Ev.minI rfl rfl) rfl ?_;refine WL.ev (Ev.maxI rfl rfl) rfl ?_;rw[show max (-3000) (min 3000 (e-1))=ahq e from rfl];have a9 : -3000<=ahq e/\ahq e<=3000:=by unfold ahq;omega
  refine WL.call hasF178 rfl rfl (a7x neg _ (wd (aaj m cut)) (ahq e) _ o (U.q5 a) oO) λv w4 n=>?_;obtain ⟨A,l⟩:=n;rw[g6] at A;have s:cQ neg (aaj m cut) (ahq e)=some (awq neg m cut e):=by unfold awq;rw[V];rfl
  rcases A with ⟨r,d2,d,rfl,c⟩|⟨d,_⟩
  rotate_left
  · rw[s] at d;cases d
  rw[s] at d;cases d;have a:=a.ta l;have b:=b.k0 l;refine zm rfl (zx rfl rfl (zx rfl rfl ?_));refine zAh rfl rfl a λb9 a1 f g x t a=>?_;have c:=c.q5 g;have C:=zdd b.lt x;have b:=b.k0 g;refine zss rfl rfl ao f rfl λb5 i z=>?_;(try simp only[qt] at i);have a:=a.s1 z;have b:=b.kq z;have c:=c.q8 f z an;have f:=i;refine za rfl (zz (a3 (Sr λ_ Q=>zg f rfl ?_)));refine zss rfl rfl ao b rfl λb4 j F=>?_;(try simp only[qt] at j);have a:=a.s1 F;have c:=c.q8 b F an;have b:=j;refine zz (Q ?_);refine zr (k8.qJ rfl (aX.cell rfl (b.fX rfl rfl)) ?_);exact ⟨⟨_,rfl,c⟩,a⟩
 have a8:cut=false:=I;have o:=p;rw[show m*2^1=aaj m cut by unfold aaj;rw[a8];simp;omega] at o;refine zkk (J (Sr λ_ O=>zm rfl (zm rfl (zm rfl ?_))));refine WL.ev (Ev.dX rfl rfl oO) rfl ?_;refine WL.ev (Ev.minI rfl rfl) rfl ?_;refine WL.ev (Ev.maxI rfl rfl) rfl ?_;rw[show max (-3000) (min 3000 (e-1))=ahq e from rfl];have a9 : -3000<=ahq e/\ahq e<=3000:=by unfold ahq;omega
 refine WL.call hasF178 rfl rfl (a7x neg _ (wd (aaj m cut)) (ahq e) _ o (U.q5 a) oO) λv w5 n=>?_;obtain ⟨A,l⟩:=n;rw[g6] at A;have s:cQ neg (aaj m cut) (ahq e)=some (awq neg m cut e):=by unfold awq;rw[V];rfl
 rcases A with ⟨r,d2,d,rfl,c⟩|⟨d,_⟩
 rotate_left
 · rw[s] at d;cases d
 rw[s] at d;cases d;have a:=a.ta l;have b:=b.k0 l;refine zm rfl (zx rfl rfl (zx rfl rfl ?_));refine zAh rfl rfl a λb9 a1 f g x t a=>?_;have c:=c.q5 g;have C:=zdd b.lt x;have b:=b.k0 g;refine zss rfl rfl ao f rfl λb3 i y=>?_;(try simp only[qt] at i);have a:=a.s1 y;have b:=b.kq y;have c:=c.q8 f y an;have f:=i;refine za rfl (zz (O (Sr λ_ M=>zg f rfl ?_)));refine zss rfl rfl ao b rfl λb2 j D=>?_;(try simp only[qt] at j);have a:=a.s1 D;have c:=c.q8 b D an;have b:=j;refine zz (M ?_);refine zr (k8.qJ rfl (aX.cell rfl (b.fX rfl rfl)) ?_);exact ⟨⟨_,rfl,c⟩,a⟩
structure KDg(A0 B:Nat)(w0:World)(vb:Value)(g:Nat×Nat×Nat×Value×Value)(w:World):Prop where
  m:cqx A0 B g.1 g.2.1 g.2.2.1
  i:g.1<=82
  hs:NU w g.2.2.2.1 (wd g.2.1)
  ha:NU w g.2.2.2.2 (wd g.2.2.1)
  hb:NU w vb (wd B)
  ch:Chg [] w0 w
theorem dig_small{c B i b a:Nat}(h:cqx c B i b a)(d:c<2*B):a<=2*B:=by
  by_cases h0:i=0
  · have:=(h.z h0).2;omega
  · have:=(h.s oO).2;omega
theorem digits_spec(vm vq:Value)(m q:Nat)(w:World)(hm:NU w vm (wd m))(hq:NU w vq (wd q))(d4:(wd m).length<=8192)(c2:(wd q).length<=8192)(d3:q≠0):Ret Tryz.prog 267 [vm,vq,.int .i64 82] w λu w'=>(∃ vs size a,u = .tuple [vs,.bool (decide (a≠0)),.int .i64 ((bl m:Int)-(bl q:Int)-81)].toArray/\NU w' vs (wd size)/\cqx (m*2^(max 0 (-((bl m:Int)-(bl q:Int)))).toNat) (q*2^(max 0 ((bl m:Int)-(bl q:Int))).toNat) 82 size a)/\Chg [] w w':=by
 have b:=crf w;have f8:=bl_len d4;have f7:=bl_len c2;obtain ⟨x,hx⟩ : ∃ x,x=(max 0 (-((bl m:Int)-(bl q:Int)))).toNat:=⟨_,rfl⟩;obtain ⟨y,hy⟩ : ∃ y,y=(max 0 ((bl m:Int)-(bl q:Int))).toNat:=⟨_,rfl⟩;have A:m*2^x<2*(q*2^y):=by
  by_cases h0:m=0
  · rw[h0,Nat.zero_mul];have:=Nat.mul_pos (show 0<q by omega) (Nat.two_pow_pos y);omega
  rw[hx,hy];exact (cgx h0 d3 rfl).1
 rw[<- hx,<- hy];have d9:=wd_len_lift c2 (y:=y) oO;obtain ⟨A0,c4⟩ : ∃ A0,A0=m*2^x:=⟨_,rfl⟩;obtain ⟨B,hB⟩ : ∃ B,B=q*2^y:=⟨_,rfl⟩;rw[<- c4] at A ⊢;rw[<- hB] at A d9 ⊢;refine zE3 Tryz.func267 rfl ?_;refine Sr λ_ d2=>za rfl (za rfl (za rfl (zz (d2 (Sr λ_ d1=>zm rfl ?_)))));refine WL.call hasF139 rfl rfl (a3x _ _ _ hm) λv w1 e=>?_;obtain ⟨rfl,rfl⟩:=e;rw[g6];refine zm rfl ?_;refine WL.call hasF139 rfl rfl (a3x _ _ _ hq) λv w2 e=>?_;obtain ⟨rfl,rfl⟩:=e;rw[g6];refine WL.ev (Ev.dX rfl rfl oO) rfl ?_;refine za rfl (zz (d1 (Sr λ_ d0=>zm rfl (zm rfl ?_))));refine WL.ev (Ev.bnq rfl oO) rfl ?_;refine WL.ev (Ev.maxI rfl rfl) rfl ?_;rw[show max 0 (-((bl m:Int)-(bl q:Int)))=((x:Nat):Int) by omega];refine WL.call hasF271 rfl rfl (bzj _ _ x _ hm oO oO) λa3 w3 e=>?_;obtain ⟨z,V⟩:=e;rw[g6,<- c4] at z;have b:=b.ta V;have hq:=hq.q5 V;refine zm rfl (zm rfl ?_);refine WL.ev (Ev.maxI rfl rfl) rfl ?_;rw[show max 0 ((bl m:Int)-(bl q:Int))=((y:Nat):Int) by omega];refine WL.call hasF271 rfl rfl (bzj _ _ y _ hq oO oO) λM w4 e=>?_;obtain ⟨f,U⟩:=e;rw[g6,<- hB] at f;have b:=b.ta U;have z:=z.q5 U;refine za rfl (za rfl (zz (d0 (zc λ_ c9=>Sr λ_ c8=>zm rfl (zm rfl (zz (c8 (CW.block ?_))))))));refine CW.loop (S:=λg:Nat×Nat×Nat×Value×Value=>[(2,.int .i64 82),(6,g.2.2.2.1),(9,.int .i64 ((bl m:Int)-(bl q:Int))),(10,g.2.2.2.2),(11,M),(27,.int .i64 82),(28,.int .i64 (g.1:Int))]) (Inv:=KDg A0 B w M) (mu:=λg=>82-g.1) ((0,0,A0,.slice none 0 0,a3)) ?_ ?_ ?_
 ·exact ⟨cqx.zero _ _,Nat.zero_le _,by rw[eJ];exact NU.nil,z,f,b⟩
 ·exact SLp
 rintro ⟨i,size,a,vs,va⟩ wr ⟨T,c3,hs,z,f,b⟩;dsimp only at T c3 hs z f b;dsimp only;have f9:=uX (dig_small T A);refine Sr λ_ c1=>zL rfl rfl (zz (c1 (zc λ_ c0=>?_)));refine zy rfl ?_ ?_<;>intro d8<;>try simp only[qs] at d8
 ·have f4:=T.w
  have e4:2^i<=2^82:=Nat.pow_le_pow_right oD oO;have Q:size<2^82:=by omega
  have e6:=dtx Q;have R:=lJ Q oD;refine zkk (c0 (zc λ_ C=>CW.block (Sr λ_ b9=>zm rfl (za rfl (zz (b9 (zc λ_ O=>Sr λ_ b8=>zm rfl (zG rfl rfl (zz (b8 ?_))))))))));refine zy rfl ?_ ?_<;>intro d7<;>try simp only[qs] at d7
  ·have a1:0<i:=by omega
   refine zR λ_ b0=>?_;refine zm rfl ?_;refine WL.call hasF271 rfl rfl (bzj _ _ 1 _ z oD oO) λc7 w5 e=>?_;obtain ⟨r,J⟩:=e;rw[g6] at r;have b:=b.ta J;have hs:=hs.q5 J;have f:=f.q5 J;refine za rfl ?_;refine WL.nil (b0 _ _ _ (O ?_));refine Sr λ_ b7=>zm rfl ?_;refine WL.call hasF167 rfl rfl (aqx _ _ 1 _ hs oO) λv w6 e=>?_;obtain ⟨e,p⟩:=e;rw[g6,show a7q size 1=size*2^1 from apq size 1] at e;obtain ⟨_,Z,rfl,c⟩:=e.resolve_right (λq=>q.1 ⟨R,.inr oO⟩);have b:=b.ta p;have r:=r.q5 p;have f:=f.q5 p;refine zm rfl (zx rfl rfl (zx rfl rfl (za rfl (zz (b7 (Sr λ_ b6=>zm rfl (zm rfl ?_)))))));refine WL.call hasF272 rfl rfl (cbx _ _ (a*2^1) B _ r f) λv w7 e=>?_;obtain ⟨rfl,j⟩:=e;have b:=b.ta j;have r:=r.q5 j;have f:=f.q5 j;have c:=c.q5 j;refine WL.ev (Ev.geq rfl rfl) rfl ?_;refine zz (b6 ?_);refine zy rfl ?_ ?_<;>intro F<;>try simp only[qs] at F
   ·have G:B<=a*2^1:=Nat.le_of_not_lt λt=>by unfold sgn at F;rw[if_pos t] at F;omega
    have s:=T.step (a':=a*2^1) A (by rw[if_pos a1]);refine Sr λ_ b5=>zm rfl (zm rfl ?_);refine WL.call hasF273 rfl rfl (deq _ _ _ _ _ r f (by rw[g6,g6];exact G)) λX w8 e=>?_;obtain ⟨d,o⟩:=e;rw[g6,g6] at d;have b:=b.ta o;have f:=f.q5 o;have c:=c.q5 o;refine za rfl (zz (b5 ?_));refine zR λ_ a9=>?_;refine zm rfl ?_;refine WL.call hasF134 rfl rfl (b8x 1 _ oD) λv w9 e=>?_;obtain ⟨I,h⟩:=e;have b:=b.ta h;have d:=d.q5 h;have f:=f.q5 h;have c:=c.q5 h;refine WL.call hasF274 rfl rfl (dwj _ _ _ _ _ c I) λv f2 e=>?_;obtain ⟨e,l⟩:=e;rw[g6,g6] at e;obtain ⟨_,_,_,Y,rfl,H⟩:=e.resolve_right (λq=>q.1 ⟨lJ (k:=84) oO oD,lJ (k:=84) oD oD,lJ (k:=84) oO oD⟩);have b:=b.ta l;have d:=d.q5 l;have f:=f.q5 l;refine zm rfl (zx rfl rfl (zx rfl rfl (za rfl ?_)));refine WL.nil (a9 _ _ _ (C ?_));refine zS λ_ a8=>?_;(first|refine zi rfl rfl ?_|refine zo rfl rfl ?_);refine zm rfl (zz (a8 ?_));refine ⟨rfl,(i+1,size*2^1+1,a*2^1-B,Y,X),?_,?_,?_⟩
    ·exact SLp
    ·exact ⟨s.1 G,by show i+1<=82;omega,H,d,f,b⟩
    show 82-(i+1)<82-i;omega
   have t:a*2^1<B:=Nat.lt_of_not_le λd5=>by unfold sgn at F;rw[if_neg oO] at F;split at F<;>omega
   have s:=T.step (a':=a*2^1) A (by rw[if_pos a1]);refine zkk (C (zS λ_ a7=>?_));(first|refine zi rfl rfl ?_|refine zo rfl rfl ?_);refine zm rfl (zz (a7 ?_));refine ⟨rfl,(i+1,size*2^1,a*2^1,Z,c7),?_,?_,?_⟩
   ·exact SLp
   ·exact ⟨s.2 t,by show i+1<=82;omega,c,r,f,b⟩
   show 82-(i+1)<82-i;omega
  have a1:i=0:=by omega
  refine zkk (O (Sr λ_ b4=>zm rfl ?_));refine WL.call hasF167 rfl rfl (aqx _ _ 1 _ hs oO) λv f1 e=>?_;obtain ⟨e,p⟩:=e;rw[g6,show a7q size 1=size*2^1 from apq size 1] at e;obtain ⟨_,Z,rfl,c⟩:=e.resolve_right (λq=>q.1 ⟨R,.inr oO⟩);have b:=b.ta p;have z:=z.q5 p;have f:=f.q5 p;refine zm rfl (zx rfl rfl (zx rfl rfl (za rfl (zz (b4 (Sr λ_ b3=>zm rfl (zm rfl ?_)))))));refine WL.call hasF272 rfl rfl (cbx _ _ (a) B _ z f) λv w12 e=>?_;obtain ⟨rfl,j⟩:=e;have b:=b.ta j;have z:=z.q5 j;have f:=f.q5 j;have c:=c.q5 j;refine WL.ev (Ev.geq rfl rfl) rfl ?_;refine zz (b3 ?_);refine zy rfl ?_ ?_<;>intro D<;>try simp only[qs] at D
  ·have G:B<=a:=Nat.le_of_not_lt λt=>by unfold sgn at D;rw[if_pos t] at D;omega
   have s:=T.step (a':=a) A (by rw[if_neg oO]);refine Sr λ_ b2=>zm rfl (zm rfl ?_);refine WL.call hasF273 rfl rfl (deq _ _ _ _ _ z f (by rw[g6,g6];exact G)) λX f0 e=>?_;obtain ⟨d,o⟩:=e;rw[g6,g6] at d;have b:=b.ta o;have f:=f.q5 o;have c:=c.q5 o;refine za rfl (zz (b2 ?_));refine zR λ_ a6=>?_;refine zm rfl ?_;refine WL.call hasF134 rfl rfl (b8x 1 _ oD) λv e9 e=>?_;obtain ⟨I,h⟩:=e;have b:=b.ta h;have d:=d.q5 h;have f:=f.q5 h;have c:=c.q5 h;refine WL.call hasF274 rfl rfl (dwj _ _ _ _ _ c I) λv e8 e=>?_;obtain ⟨e,l⟩:=e;rw[g6,g6] at e;obtain ⟨_,_,_,Y,rfl,H⟩:=e.resolve_right (λq=>q.1 ⟨lJ (k:=84) oO oD,lJ (k:=84) oD oD,lJ (k:=84) oO oD⟩);have b:=b.ta l;have d:=d.q5 l;have f:=f.q5 l;refine zm rfl (zx rfl rfl (zx rfl rfl (za rfl ?_)));refine WL.nil (a6 _ _ _ (C ?_));refine zS λ_ a5=>?_;(first|refine zi rfl rfl ?_|refine zo rfl rfl ?_);refine zm rfl (zz (a5 ?_));refine ⟨rfl,(i+1,size*2^1+1,a-B,Y,X),?_,?_,?_⟩
   ·exact SLp
   ·exact ⟨s.1 G,by show i+1<=82;omega,H,d,f,b⟩
   show 82-(i+1)<82-i;omega
  have t:a<B:=Nat.lt_of_not_le λd5=>by unfold sgn at D;rw[if_neg oO] at D;split at D<;>omega
  have s:=T.step (a':=a) A (by rw[if_neg oO]);refine zkk (C (zS λ_ a4=>?_));(first|refine zi rfl rfl ?_|refine zo rfl rfl ?_);refine zm rfl (zz (a4 ?_));refine ⟨rfl,(i+1,size*2^1,a,Z,va),?_,?_,?_⟩
  ·exact SLp
  ·exact ⟨s.2 t,by show i+1<=82;omega,c,z,f,b⟩
  show 82-(i+1)<82-i;omega
 have a0:i=82:=by omega
 subst a0;refine CW.exit ?_;refine c9 (Sr λ_ b1=>zm rfl (zm rfl ?_));obtain ⟨aa,ca,rfl,d6,f5⟩:=z.ex;have f6:=a0x (n:=a);refine zn rfl (zG rfl rfl ?_);rw[show decide ((0:Int)<(((wd a).length:Nat):Int))=decide (a≠0) from decide_eq_decide.2 oO];refine zm rfl (zm rfl ?_);refine WL.ev (Ev.dX rfl rfl oO) rfl ?_;refine WL.ev (Ev.dX rfl rfl oO) rfl ?_;refine za rfl (za rfl (za rfl (zz (b1 ?_))));refine zr ?_;refine k8.ret3 rfl rfl rfl rfl ?_;exact ⟨⟨_,size,a,rfl,hs,T⟩,b⟩
end
section
open Go Sx Wd
set_option exponentiation.threshold 5000
theorem dzq(J nd:Bool)(X Y:Value)(m q:Nat)(G H:Int)(w:World)(k:NU w X (wd m))(j:NU w Y (wd q))(A:(wd m).length<=8192)(z:(wd q).length<=8192)(T:q≠0)(b3 : -1048576<=G/\G<=1048576)(b4 : -1048576<=H/\H<=1048576)(hg:GW w):Ret Tryz.prog 252 [.agg [.bool J,X,.int .i64 G,.bool nd,Y,.int .i64 H].toArray] w λu w'=>(∃ size a,DY w' u (awq J size (decide (a≠0)) (((bl m:Int)-(bl q:Int))-81+G-H))/\cqx (m*2^(max 0 (-((bl m:Int)-(bl q:Int)))).toNat) (q*2^(max 0 ((bl m:Int)-(bl q:Int))).toNat) 82 size a)/\Chg [] w w':=by
 have b:=crf w;have a9:=k.one;have a8:=j.one;have b6:=bl_len A;have b5:=bl_len z;have U:=hg;refine zE1 Tryz.func252 rfl ?_;refine Sr λ_ R=>?_;refine zBh rfl rfl rfl b λb1 a2 c n Z C b=>?_;have k:=k.q5 n;have j:=j.q5 n;refine zAh rfl rfl b λb2 a1 d h D B b=>?_;have k:=k.q5 h;have j:=j.q5 h;have I:=zdd c.lt D;have c:=c.k0 h;refine zz (R (zc λ_ Q=>?_));refine CW.bZ 16 rfl cJ λa7 M e g=>?_;have b:=b.ta g;have c:=c.k0 g;have d:=d.k0 g;have k:=k.q5 g;have j:=j.q5 g;have i:=c;refine wh 0 rfl e (eF rfl) (wh 1 rfl e (eF rfl) (wh 2 rfl e (λ_ t=>Ev.load rfl rfl ((i.q5 t).at_ rfl)) (wh 4 rfl e (eF rfl) (wh 5 rfl e (eF rfl) (wh 6 rfl e (λ_ t=>Ev.load rfl rfl ((i.q5 t).at_ rfl)) ?_)))));refine WH.k6 3 rfl oR hasF266 rfl rfl (a4q _ _ _ k) λa4 w1 y=>?_;obtain ⟨r,rfl⟩:=y;rw[g6] at r;refine ⟨e,?_⟩;refine WH.k6 7 rfl oR hasF266 rfl rfl (a4q _ _ _ j) λa3 w2 y=>?_;obtain ⟨p,rfl⟩:=y;rw[g6] at p;refine ⟨e,?_⟩;refine WH.k6 8 rfl oR hasF267 rfl rfl (digits_spec _ _ m q _ r p A z T) λv w3 y=>?_;obtain ⟨⟨vs,size,a,rfl,V,F⟩,f⟩:=y;have b:=b.ta f;have c:=c.k0 f;have d:=d.k0 f;have e:=e.trans f;refine ⟨e,?_⟩;refine wh 9 rfl e (eM rfl) (wh 10 rfl e (eX rfl rfl) (wh 11 rfl e (eX rfl rfl) (wh 12 rfl e (eX rfl rfl) (wh 13 rfl e (eA rfl) (wh 14 rfl e (eA rfl) (wh 15 rfl e (eA rfl) ?_))))));refine WH.done oR (M _ _ _ ?_);refine Q (Sr λ_ O=>zf rfl (zf rfl (zl c rfl rfl (zm rfl (zm rfl (zm rfl (zf rfl (zf rfl (zl c rfl rfl ?_)))))))));refine WL.ev (Ev.jZ rfl rfl oO) rfl ?_;refine zf rfl (zf rfl (zl c rfl rfl ?_));refine WL.ev (Ev.dX rfl rfl oO) rfl ?_;refine WL.call hasF269 rfl rfl (about_spec J _ size (decide (a≠0)) (((bl m:Int)-(bl q:Int))-81+G-H) _ V (U.q5 b) F.w oO) λv w4 y=>?_;obtain ⟨⟨rr,rfl,x⟩,s⟩:=y;have b:=b.ta s;have d:=d.k0 s;refine zss rfl rfl ao d rfl λa0 o l=>?_;(try simp only[qt] at o);have b:=b.s1 l;have x:=x.q8 d l an;have d:=o;refine zz (O ?_);refine zr (k8.qJ rfl (aX.cell rfl (d.fX rfl rfl)) ?_);exact ⟨⟨size,a,⟨rr,rfl,x⟩,F⟩,b⟩
end
section
open Go Sx Wd
set_option exponentiation.threshold 5000
def RC(w:World)(ad:Addr)(l:List Value):Prop:=∀ j v,l[j]?=some v->w.cell? (ad.add j)=some v
theorem RC.q5{w w':World}{a:Addr}{l:List Value}(h:RC w a l)(b:Chg [] w w'):RC w' a l:=λj v hv=>b.cell (h j v hv) oS
theorem RC.lt{w:World}{g:Nat}{l:List Value}(h:RC w ⟨g,0,none⟩ l)(c:0<l.length):g<w.heap.size:=by
  have b:=h 0 _ (List.getElem?_eq_getElem c)
  rw[awx] at b
  apply Nat.lt_of_not_le
  intro a
  have:w.heap[g]?=none:=Array.getElem?_eq_none a
  simp[World.cell?,this] at b
theorem RC.q8{w w':World}{g b:Nat}{T:TypeId}{l cs:List Value}(h:RC w ⟨g,0,none⟩ l)(e:BK w b T cs)(d:Chg [b] w w')(_ : ∀ c∈cs,abq c=false)(a:g≠b:=by omega):RC w' ⟨g,0,none⟩ l:=λj v hv=>d.cell (h j v hv) (by rw[awx];simpa using a)
theorem RC.of_BK{w:World}{b:Nat}{T:TypeId}{l:List Value}(h:BK w b T l):RC w ⟨b,0,none⟩ l:=λj v hv=>by rw[awx,Nat.zero_add];exact h.at_ hv
def clx(dx dy:Dy)(rx ry:Value):List Value:=[.bool dx.neg,rx,.int .i64 dx.e,.bool dy.neg,ry,.int .i64 dy.e]
def FmR(w:World)(u:Value)(x y:Option Dy)(sg:Int):Prop:=
  (sg<0/\u = .tuple [.slice none 0 0,.int .i64 1].toArray)\/
  (0<=sg/\(x=none\/y=none)/\u = .tuple [.slice none 0 0,.int .i64 2].toArray)\/
  (0<=sg/\∃ dx dy,x=some dx/\y=some dy/\dy.m=0/\u = .tuple [.slice none 0 0,.int .i64 21].toArray)\/
  (0<=sg/\∃ dx dy,x=some dx/\y=some dy/\dy.m≠0/\∃ g c rx ry,u = .tuple [.slice (some ⟨g,0,none⟩) 1 c,.int .i64 0].toArray/\RC w ⟨g,0,none⟩ (clx dx dy rx ry)/\NU w rx (wd dx.m)/\NU w ry (wd dy.m))
structure KF1(sg:Int)(w0:World)(i:Nat)(w:World):Prop where
  hi:i<=1
  s:i=1->0<=sg
  ch:Chg [] w0 w
structure KF2(x y:Option Dy)(w0:World)(g:Nat×Value)(w:World):Prop where
  hi:g.1<=1
  z:g.1=0->g.2 = .slice none 0 0
  o:g.1=1->∃ dx dy ad c rx ry,x=some dx/\y=some dy/\g.2 = .slice (some ⟨ad,0,none⟩) 1 c/\RC w ⟨ad,0,none⟩ (clx dx dy rx ry)/\NU w rx (wd dx.m)/\NU w ry (wd dy.m)
  ch:Chg [] w0 w
structure KF3(dx dy:Dy)(rx ry:Value)(ad:Nat)(w0:World)(i:Nat)(w:World):Prop where
  hi:i<=1
  z:i=1->dy.m≠0
  rc:RC w ⟨ad,0,none⟩ (clx dx dy rx ry)
  hx:NU w rx (wd dx.m)
  hy:NU w ry (wd dy.m)
  ch:Chg [] w0 w
theorem a7j{neg:Bool}{n:Nat}: sgD neg n=0↔n=0:=by
  unfold sgD
  by_cases h:n=0
  · rw[if_pos h];simp[h]
  · rw[if_neg h];cases neg<;>simp[h]
theorem forms_spec(b:Nat)(nn nd:Bool)(vn vd:Value)(ln ld:List Nat)(en ed:Int)(w:World)(q:BK w b 161 [.bool nn,vn,.int .i64 en,.bool nd,vd,.int .i64 ed])(hn:NU w vn ln)(y:NU w vd ld)(hg:GW w)(m8 : -9223372036854775808<=en/\en<=9223372036854775807)(i9 : -9223372036854775808<=ed/\ed<=9223372036854775807):Ret Tryz.prog 250 [.slice (some ⟨b,0,none⟩) 1 1] w λu w'=>FmR w' u (cQ nn (val ln) en) (cQ nd (val ld) ed) (sgD nd (val ld))/\Chg [] w w':=by
 have a:=crf w;have l2:=q;have i2:=hn;have k1:=y;have p7:=hn.one;have p8:=y.one;have d6:=hg;refine zE1 Tryz.func250 rfl ?_;refine Sr λ_ m4=>za rfl (za rfl (zz (m4 (zc λ_ m3=>Sr λ_ m2=>zm rfl (zn rfl (zm rfl (zz (m2 (CW.block ?_)))))))));refine CW.loop (S:=λi:Nat=>[(0,.slice (some ⟨b,0,none⟩) 1 1),(15,.slice (some ⟨b,0,none⟩) 1 1),(16,.int .i64 1),(17,.int .i64 (i:Int))]) (Inv:=KF1 (sgD nd (val ld)) w) (mu:=λi=>1-i) (0) ?_ ?_ ?_
 ·exact ⟨by decide,λh=>(by cases h),a⟩
 ·exact SLp
 rintro i wr ⟨d4,Q,a⟩;have q:=l2.q5 a;have hn:=i2.q5 a;have y:=k1.q5 a;refine Sr λ_ m1=>zL rfl rfl (zz (m1 (zc λ_ m0=>?_)));refine zy rfl ?_ ?_<;>intro n1<;>try simp only[qs] at n1
 ·have z:i=0:=by omega
  subst z;refine zkk (m0 (zc λ_ l9=>CW.block (Sr λ_ h9=>?_)));refine WL.ev (Ev.indexAddr rfl rfl oO oO) rfl ?_;rw[show 0+((0:Nat):Int).toNat*6=0 from rfl];refine zg q rfl ?_;refine WL.iQ (l:=[.bool false,.slice none 0 0,.int .i64 0,.bool false,.slice none 0 0,.int .i64 0]) rfl rfl λb5 p4 c0 c7 i6=>?_;have i4:=Nat.le_trans a.size i6;have a:=a.ta c7;have y:=y.q5 c7;have m7:b≠b5:=by have:=q.lt;omega
  refine zss rfl rfl ao c0 rfl λp2 c9 c6=>?_;(try simp only[qt] at c9);have a:=a.s1 c6;have y:=y.q8 c0 c6 an;have c0:=c9;refine zz (h9 (Sr λ_ h8=>zf rfl ?_));refine WL.ev (Ev.fQ rfl rfl c0 rfl rfl) rfl ?_;simp only[List.drop_succ_cons,List.drop_zero,List.take_succ_cons,List.take_zero];refine WL.call hasF74 rfl rfl (ajj nd vd ld ed _ y) λv w1 h'=>?_;obtain ⟨rfl,l1⟩:=h';have a:=a.ta l1;refine zL rfl rfl (zz (h8 ?_));refine zy rfl ?_ ?_<;>intro d8<;>try simp only[qs] at d8
  ·have d1:sgD nd (val ld)<0:=d8
   refine Sr λ_ h7=>za rfl (za rfl (zz (h7 ?_)));refine zr (zr2 rfl rfl rfl ?_);exact ⟨.inl ⟨d1,rfl⟩,a⟩
  have d1:0<=sgD nd (val ld):=by have:=d8;omega
  refine zkk (l9 (zS λ_ e8=>?_));(first|refine zi rfl rfl ?_|refine zo rfl rfl ?_);refine zm rfl (zz (e8 ?_));refine ⟨rfl,1,?_,?_,?_⟩
  ·exact SLp
  ·exact ⟨by decide,λ_=>d1,a⟩
  decide
 have z:i=1:=by omega
 subst z;have Q:=Q rfl;refine CW.exit ?_;refine m3 (Sr λ_ h6=>za rfl (zz (h6 (zc λ_ h5=>Sr λ_ h4=>zm rfl (zn rfl (zm rfl (zz (h4 (CW.block ?_)))))))));refine CW.loop (S:=λg:Nat×Value=>[(0,.slice (some ⟨b,0,none⟩) 1 1),(6,g.2),(26,.slice (some ⟨b,0,none⟩) 1 1),(27,.int .i64 1),(28,.int .i64 (g.1:Int))]) (Inv:=KF2 (cQ nn (val ln) en) (cQ nd (val ld) ed) w) (mu:=λg=>1-g.1) ((0,.slice none 0 0)) ?_ ?_ ?_
 ·exact ⟨by decide,λ_=>rfl,λh=>(by cases h),a⟩
 ·exact SLp
 rintro ⟨i,vo⟩ wr ⟨d4,hz,ho,a⟩;dsimp only at d4 hz ho a;dsimp only;have q:=l2.q5 a;have hn:=i2.q5 a;have y:=k1.q5 a;refine Sr λ_ h3=>zL rfl rfl (zz (h3 (zc λ_ h2=>?_)));refine zy rfl ?_ ?_<;>intro n0<;>try simp only[qs] at n0
 ·have z:i=0:=by omega
  subst z;obtain rfl:=hz rfl;refine zkk (h2 (zc λ_ h1=>CW.block (Sr λ_ g9=>?_)));refine WL.ev (Ev.indexAddr rfl rfl oO oO) rfl ?_;rw[show 0+((0:Nat):Int).toNat*6=0 from rfl];refine zg q rfl ?_;refine WL.iQ (l:=[.bool false,.slice none 0 0,.int .i64 0,.bool false,.slice none 0 0,.int .i64 0]) rfl rfl λb8 p3 f Y i5=>?_;have i3:=Nat.le_trans a.size i5;have a:=a.ta Y;have hn:=hn.q5 Y;have y:=y.q5 Y;have m6:b≠b8:=by have:=q.lt;omega
  have q:=q.q5 Y;refine zss rfl rfl ao f rfl λp1 c8 X=>?_;(try simp only[qt] at c8);have a:=a.s1 X;have q:=q.kq X;have hn:=hn.q8 f X an;have y:=y.q8 f X an;have f:=c8;refine zz (g9 (Sr λ_ c4=>zf rfl (zf rfl (zl f rfl rfl (zf rfl (zf rfl (zl f rfl rfl (zf rfl (zf rfl (zl f rfl rfl ?_))))))))));refine WL.call hasF178 rfl rfl (a7x nn vn ln en _ hn (d6.q5 a) m8) λv w2 h'=>?_;obtain ⟨l0,a1⟩:=h';have a:=a.ta a1;have q:=q.q5 a1;have f:=f.k0 a1;have y:=y.q5 a1;rcases l0 with ⟨rx,dx,J,rfl,d⟩|⟨J,rfl⟩
  ·refine zm rfl (zx rfl rfl (zx rfl rfl ?_));refine zAh rfl rfl a λb9 l7 p x a7 a6 a=>?_;have y:=y.q5 x;have d:=d.q5 x;have d3:b≠b9:=by have:=q.lt;omega
   have q:=q.q5 x;have b4:=zdd f.lt a7;have f:=f.k0 x;refine zss rfl rfl ao p rfl λo9 Z M=>?_;(try simp only[qt] at Z);have a:=a.s1 M;have q:=q.kq M;have f:=f.kq M;have y:=y.q8 p M an;have d:=d.q8 p M an;have p:=Z;refine za rfl (zz (c4 (Sr λ_ c3=>zf rfl (zf rfl (zl f rfl rfl (zf rfl (zf rfl (zl f rfl rfl (zf rfl (zf rfl (zl f rfl rfl ?_)))))))))));refine WL.call hasF178 rfl rfl (a7x nd vd ld ed _ y (d6.q5 a) i9) λv w3 h'=>?_;obtain ⟨a9,B⟩:=h';have a:=a.ta B;have q:=q.q5 B;have p:=p.k0 B;have d:=d.q5 B;rcases a9 with ⟨ry,I,A,rfl,k⟩|⟨A,rfl⟩
   ·refine zm rfl (zx rfl rfl (zx rfl rfl ?_));refine zAh rfl rfl a λT a3 o t F s a=>?_;have d:=d.q5 t;have k:=k.q5 t;have D:b≠T:=by have:=q.lt;omega
    have i1:=zdd p.lt F;have p:=p.k0 t;refine zss rfl rfl ao o rfl λo8 n V=>?_;(try simp only[qt] at n);have a:=a.s1 V;have p:=p.kq V;have d:=d.q8 o V an;have k:=k.q8 o V an;have o:=n;refine za rfl (zz (c3 (zc λ_ g5=>Sr λ_ g4=>zm rfl (zN rfl rfl (zm rfl (zw rfl (zm rfl (zw rfl (zN rfl rfl (ze rfl rfl (zz (g4 ?_))))))))))));refine CW.oX rfl ?_;refine zkk (g5 ?_);refine zR λ_ e7=>?_;refine zm rfl (zg p rfl (zg o rfl ?_));refine WL.ev (Ev.build (vs:=_) (cs:=[_,_,_,_,_,_]) rfl rfl) rfl ?_;refine WL.buildSlice (m:=1) (cs:=[.bool dx.neg,rx,.int .i64 dx.e,.bool I.neg,ry,.int .i64 I.e]) oD oD rfl oR rfl λn3 e3 c5=>?_;have R:=c5.chg;have k5:BK e3 n3 _ [.bool dx.neg,rx,.int .i64 dx.e,.bool I.neg,ry,.int .i64 I.e]:=c5.at_;have a:=a.trans R;have d:=d.q5 R;have k:=k.q5 R;have d2:=RC.of_BK k5;refine WL.append (news:=[.bool dx.neg,rx,.int .i64 dx.e,.bool I.neg,ry,.int .i64 I.e]) (xs:=[]) (m:=0) (by rfl) oD rfl rfl ⟨rfl,.inl ⟨rfl,rfl⟩⟩ rfl d2 (by intro v hv;simp only[List.mem_cons,List.not_mem_nil,or_false] at hv;rcases hv with rfl|rfl|rfl|rfl|rfl|rfl<;>first|rfl|exact NU.one oA) oD oD rfl λp5 e2 i0 O o3=>?_;have O:Chg [] e3 e2:=by simpa[Value.ownBlock] using O
    have a:=a.trans O;have d:=d.q5 O;have k:=k.q5 O;rcases bmx i0 with ⟨_,h0,_⟩|⟨d9,b0,rfl,_,_,b7⟩
    · cases h0
    have r:RC e2 ⟨d9,0,none⟩ (clx dx I rx ry):=λj v hv=>by rw[awx,Nat.zero_add];exact b7 j v hv
    refine za rfl ?_;refine WL.nil (e7 _ _ _ (h1 ?_));refine zS λ_ e6=>?_;(first|refine zi rfl rfl ?_|refine zo rfl rfl ?_);refine zm rfl (zz (e6 ?_));refine ⟨rfl,(1,.slice (some ⟨d9,0,none⟩) 1 b0),?_,?_,?_⟩
    ·exact SLp
    ·exact ⟨Nat.le_refl 1,λh=>(by cases h),λ_=>⟨dx,I,d9,b0,rx,ry,J,A,rfl,r,d,k⟩,a⟩
    show 1-1<1-0;decide
   refine zm rfl (zx rfl rfl (zx rfl rfl ?_));refine zAh rfl rfl a λT a3 o t F s a=>?_;have D:b≠T:=by have:=q.lt;omega
   refine zss rfl rfl ao o rfl λo7 n k4=>?_;(try simp only[qt] at n);have a:=a.s1 k4;refine za rfl (zz (c3 (zc λ_ n9=>Sr λ_ g3=>zm rfl (zN rfl rfl (zm rfl (zw rfl (zm rfl (zw rfl (zN rfl rfl (ze rfl rfl (zz (g3 ?_))))))))))));refine CW.nZ rfl ?_;refine Sr λ_ g2=>za rfl (za rfl (zz (g2 ?_)));refine zr (zr2 rfl rfl rfl ?_);exact ⟨.inr (.inl ⟨Q,by first|exact .inl J|exact .inr A,rfl⟩),a⟩
  refine zm rfl (zx rfl rfl (zx rfl rfl ?_));refine zAh rfl rfl a λb9 l7 p x a7 a6 a=>?_;have y:=y.q5 x;have d3:b≠b9:=by have:=q.lt;omega
  have q:=q.q5 x;have b4:=zdd f.lt a7;have f:=f.k0 x;refine zss rfl rfl ao p rfl λo6 Z U=>?_;(try simp only[qt] at Z);have a:=a.s1 U;have q:=q.kq U;have f:=f.kq U;have y:=y.q8 p U an;refine za rfl (zz (c4 (Sr λ_ c2=>zf rfl (zf rfl (zl f rfl rfl (zf rfl (zf rfl (zl f rfl rfl (zf rfl (zf rfl (zl f rfl rfl ?_)))))))))));refine WL.call hasF178 rfl rfl (a7x nd vd ld ed _ y (d6.q5 a) i9) λv w4 h'=>?_;obtain ⟨a9,B⟩:=h';have a:=a.ta B;have q:=q.q5 B;rcases a9 with ⟨ry,I,A,rfl,k⟩|⟨A,rfl⟩
  ·refine zm rfl (zx rfl rfl (zx rfl rfl ?_));refine zAh rfl rfl a λT a3 o t F s a=>?_;have D:b≠T:=by have:=q.lt;omega
   refine zss rfl rfl ao o rfl λo5 n k3=>?_;(try simp only[qt] at n);have a:=a.s1 k3;refine za rfl (zz (c2 (zc λ_ n8=>Sr λ_ g1=>zm rfl (zN rfl rfl (zm rfl (zv rfl (zv rfl (zt rfl rfl (zz (g1 ?_))))))))));refine CW.nZ rfl ?_;refine Sr λ_ g0=>za rfl (za rfl (zz (g0 ?_)));refine zr (zr2 rfl rfl rfl ?_);exact ⟨.inr (.inl ⟨Q,by first|exact .inl J|exact .inr A,rfl⟩),a⟩
  refine zm rfl (zx rfl rfl (zx rfl rfl ?_));refine zAh rfl rfl a λT a3 o t F s a=>?_;have D:b≠T:=by have:=q.lt;omega
  refine zss rfl rfl ao o rfl λo4 n k2=>?_;(try simp only[qt] at n);have a:=a.s1 k2;refine za rfl (zz (c2 (zc λ_ n7=>Sr λ_ f9=>zm rfl (zN rfl rfl (zm rfl (zv rfl (zv rfl (zt rfl rfl (zz (f9 ?_))))))))));refine CW.nZ rfl ?_;refine Sr λ_ f8=>za rfl (za rfl (zz (f8 ?_)));refine zr (zr2 rfl rfl rfl ?_);exact ⟨.inr (.inl ⟨Q,by first|exact .inl J|exact .inr A,rfl⟩),a⟩
 have z:i=1:=by omega
 subst z;obtain ⟨dx,I,ad,c,rx,ry,i8,i7,rfl,r,d,k⟩:=ho rfl;refine CW.exit ?_;refine h5 (zc λ_ f7=>Sr λ_ f6=>zm rfl (zn rfl (zm rfl (zz (f6 (CW.block ?_))))));refine CW.loop (S:=λi:Nat=>[(6,.slice (some ⟨ad,0,none⟩) 1 c),(71,.slice (some ⟨ad,0,none⟩) 1 c),(72,.int .i64 1),(73,.int .i64 (i:Int))]) (Inv:=KF3 dx I rx ry ad w) (mu:=λi=>1-i) (0) ?_ ?_ ?_
 ·exact ⟨by decide,λh=>(by cases h),r,d,k,a⟩
 ·exact SLp
 rintro i wr ⟨d4,m5,r,d,k,a⟩;have p6:=r.lt (by simp[clx]);refine Sr λ_ f5=>zL rfl rfl (zz (f5 (zc λ_ f4=>?_)));refine zy rfl ?_ ?_<;>intro m9<;>try simp only[qs] at m9
 ·have z:i=0:=by omega
  subst z;refine zkk (f4 (zc λ_ f3=>CW.block (Sr λ_ f2=>?_)));refine WL.ev (Ev.indexAddr rfl rfl oO oO) rfl ?_;rw[show 0+((0:Nat):Int).toNat*6=0 from rfl];refine WL.ev (Ev.avq (cs:=clx dx I rx ry) rfl rfl rfl r) rfl ?_;unfold clx;refine WL.iQ (l:=[.bool false,.slice none 0 0,.int .i64 0,.bool false,.slice none 0 0,.int .i64 0]) rfl rfl λq3 n6 C H d5=>?_;have e0:=Nat.le_trans a.size d5;have a:=a.ta H;have r:=r.q5 H;have d:=d.q5 H;have k:=k.q5 H;refine zss rfl rfl ao C rfl λn4 a8 G=>?_;(try simp only[qt] at a8);have a:=a.s1 G;have r:=r.q8 C G an;have d:=d.q8 C G an;have k:=k.q8 C G an;have C:=a8;refine zz (f2 (Sr λ_ f1=>zf rfl ?_));refine WL.ev (Ev.fQ rfl rfl C rfl rfl) rfl ?_;simp only[List.drop_succ_cons,List.drop_zero,List.take_succ_cons,List.take_zero];refine WL.call hasF74 rfl rfl (ajj I.neg ry (wd I.m) I.e _ k) λv w5 h'=>?_;obtain ⟨rfl,a0⟩:=h';rw[g6];have a:=a.ta a0;have r:=r.q5 a0;have d:=d.q5 a0;have k:=k.q5 a0;refine zq rfl rfl (zz (f1 ?_));refine zy rfl ?_ ?_<;>intro d7<;>try simp only[qs] at d7
  ·have a5:I.m=0:=a7j.1 d7
   refine Sr λ_ f0=>za rfl (za rfl (zz (f0 ?_)));refine zr (zr2 rfl rfl rfl ?_);exact ⟨.inr (.inr (.inl ⟨Q,dx,I,i8,i7,a5,rfl⟩)),a⟩
  have a5:I.m≠0:=λe=>d7 (a7j.2 e);refine zkk (f3 (zS λ_ e5=>?_));(first|refine zi rfl rfl ?_|refine zo rfl rfl ?_);refine zm rfl (zz (e5 ?_));refine ⟨rfl,1,?_,?_,?_⟩
  ·exact SLp
  ·exact ⟨by decide,λ_=>a5,r,d,k,a⟩
  decide
 have z:i=1:=by omega
 subst z;have a5:=m5 rfl;refine CW.exit ?_;refine f7 (Sr λ_ e9=>zm rfl (za rfl (za rfl (zz (e9 ?_)))));refine zr (zr2 rfl rfl rfl ?_);exact ⟨.inr (.inr (.inr ⟨Q,dx,I,i8,i7,a5,ad,c,rx,ry,rfl,r,d,k⟩)),a⟩
end
section
open Go Sx Wd
set_option exponentiation.threshold 5000
theorem d6j{neg:Bool}{n:Nat}{e:Int}{d:Dy}(h:cQ neg n e=some d)(a:n≠0): ∃ t:Nat,n=d.m*2^t/\d.e=e+t/\d.neg=neg:=by
  unfold cQ at h
  rw[if_neg a] at h
  split at h
  · cases h
  · cases h;exact ⟨tz n,(akx a).2,rfl,rfl⟩
theorem dy_congr{m:Nat}{e e':Int}{t:Nat}(a:e'=e+t):dyA m e'*dyB e=dyA (m*2^t) e*dyB e':=by
  unfold dyA dyB
  rw[Nat.mul_assoc,Nat.mul_assoc,Nat.mul_assoc,<- Nat.pow_add,<- Nat.pow_add,<- Nat.pow_add]
  congr 2
  omega
def buq(nn nd:Bool)(ln ld:Nat)(en ed mode:Int)(bits:Nat)(e:Int):Prop:=
  (¬(0<=mode/\mode<=4)/\bits=0/\e=1)\/((0<=mode/\mode<=4)/\
    ((sgD nd ld<0/\bits=0/\e=1)\/(0<=sgD nd ld/\(cQ nn ln en=none\/cQ nd ld ed=none)/\bits=0/\e=2)\/
     (0<=sgD nd ld/\∃ x y,cQ nn ln en=some x/\cQ nd ld ed=some y/\((y.m=0/\bits=0/\e=21)\/
       (y.m≠0/\∃ r,lZ (dyA x.m (x.e-y.e)) (y.m*dyB (x.e-y.e)) x.neg mode r/\r<=9218868437227405312/\bits=(if x.neg then r+9223372036854775808 else r)/\e=0)))))
theorem aboutD_ok{neg:Bool}{m:Nat}{cut:Bool}{e:Int}(h:m<2^82):(awq neg m cut e).ok:=by
  obtain ⟨d,a⟩:=chq (neg:=neg) (cut:=cut) (e:=e) h
  have:awq neg m cut e=d:=by unfold awq;rw[a];rfl
  rw[this];exact iJ a
theorem quot_round{x y:Dy}(G:x.ok)(T:y.ok)(f:y.m≠0){b a:Nat}{mode:Int}{bits:Nat}{e:Int}(B:0<=mode/\mode<=4)
    (j:cqx (x.m*2^(max 0 (-((bl x.m:Int)-(bl y.m:Int)))).toNat) (y.m*2^(max 0 ((bl x.m:Int)-(bl y.m:Int))).toNat) 82 b a)
    (D:cxj (cQ (awq x.neg b (decide (a≠0)) ((bl x.m:Int)-(bl y.m:Int)-81+x.e-y.e)).neg (awq x.neg b (decide (a≠0)) ((bl x.m:Int)-(bl y.m:Int)-81+x.e-y.e)).m (awq x.neg b (decide (a≠0)) ((bl x.m:Int)-(bl y.m:Int)-81+x.e-y.e)).e) mode bits e) :
    ∃ r,lZ (dyA x.m (x.e-y.e)) (y.m*dyB (x.e-y.e)) x.neg mode r/\r<=9218868437227405312/\bits=(if x.neg then r+9223372036854775808 else r)/\e=0:=by
  obtain ⟨d,g⟩:=chq (neg:=x.neg) (cut:=decide (a≠0)) (e:=(bl x.m:Int)-(bl y.m:Int)-81+x.e-y.e) j.w
  have o:awq x.neg b (decide (a≠0)) ((bl x.m:Int)-(bl y.m:Int)-81+x.e-y.e)=d:=by unfold awq;rw[g];rfl
  rw[o,mX (iJ g)] at D
  rcases D with ⟨h,_⟩|⟨_,⟨h,_⟩|⟨V,r,h,i,H,p,C⟩⟩
  · exact absurd B h
  · cases h
  cases h
  by_cases h0:x.m=0
  · -- nought
    have F:=G.z h0
    have A:b=0/\a=0:=by
      obtain ⟨v,_⟩:=j.s oD
      rw[h0,Nat.zero_mul,Nat.zero_mul] at v
      have U:0<y.m*2^(max 0 ((bl 0:Int)-(bl y.m:Int))).toNat:=Nat.mul_pos oO (Nat.two_pow_pos _)
      have J:b*(y.m*2^(max 0 ((bl 0:Int)-(bl y.m:Int))).toNat)=0:=by omega
      rcases Nat.mul_eq_zero.1 J with q|q
      · exact ⟨q,by omega⟩
      · omega
    have n:aaj b (decide (a≠0))=0:=by unfold aaj;rw[A.1,A.2];rfl
    rw[n,jJ] at g
    cases g
    have R:dyA Dy.zero.m Dy.zero.e=0:=by unfold dyA Dy.zero;simp
    rw[R] at i
    have l:=i.unique (yZ _) (cuq (yZ _) _ _)
    subst l
    have k:x.neg=false:=by rw[F];rfl
    refine ⟨0,?_,by decide,?_,C⟩
    · rw[h0,show dyA 0 (x.e-y.e)=0 by unfold dyA;simp]
      exact cuq (Nat.mul_pos oO (yZ _)) _ _
    · rw[p,k];rfl
  · have u:aaj b (decide (a≠0))≠0:=by
      have I:=(cgx h0 f rfl).2
      have:=dig_size j oD I
      unfold aaj
      omega
    obtain ⟨t,O,M,v⟩:=d6j g u
    rw[v] at i p
    have c:=i.congr (B':=dyB (ahq ((bl x.m:Int)-(bl y.m:Int)-81+x.e-y.e))) (yZ _) (yZ _) (dy_congr M)
    rw[<- O] at c
    refine ⟨r,near_quot (a:=a) h0 f rfl B j (e:=ahq ((bl x.m:Int)-(bl y.m:Int)-81+x.e-y.e)) (by unfold ahq;congr 2;omega) ?_,H,p,C⟩
    have Q:aaj b (decide (a≠0))=2*b+if a=0 then 0 else 1:=by
      unfold aaj
      by_cases q:a=0
      · simp[q]
      · simp[q]
    rw[Q] at c
    exact c
theorem rounded_spec(D F:Bool)(B C:Value)(ln ld:List Nat)(x y mode:Int)(w:World)(z:NU w B ln)(A:NU w C ld)(hg:GW w)(b6 : -9223372036854775808<=x/\x<=9223372036854775807)(b7 : -9223372036854775808<=y/\y<=9223372036854775807):Ret Tryz.prog 218 [.agg [.bool D,B,.int .i64 x,.bool F,C,.int .i64 y].toArray,.int .i64 mode,.bool false,.func (.func 76) #[] #[]] w λu w'=>(∃ bits e,u = .tuple [.float .f64 bits,.int .i64 e].toArray/\buq D F (val ln) (val ld) x y mode bits e)/\Chg [] w w':=by
 have b:=crf w;have d8:=z.one;have d9:=A.one;have s:=hg;refine zE4 Tryz.func218 rfl ?_;refine Sr λ_ b1=>?_;refine zBh rfl rfl rfl b λb4 d0 b8 q c9 Y b=>?_;have z:=z.q5 q;have A:=A.q5 q;refine za rfl (za rfl (zz (b1 (zc λ_ b0=>?_))));refine CW.oJ 17 (decide (¬(0<=mode/\mode<=4))) ?_ ?_
 ·refine zS λ_ G=>zm rfl (zL rfl rfl (zm rfl ?_));refine zb ?_ ?_<;>intro b5<;>try simp only[qs] at b5
  ·refine zv rfl (zv rfl (zt rfl rfl (zz (G ?_))));refine ⟨rfl,rfl,q9.g7 rfl ?_ ?_⟩
   ·first|(simp;omega)|(refine decide_eq_decide.2 ?_;omega)
   exact SMg
  refine zw rfl (zm rfl (zw rfl (zG rfl rfl (ze rfl rfl (zz (G ?_))))));refine ⟨rfl,rfl,q9.g7 rfl ?_ ?_⟩
  ·first|(simp;omega)|(refine decide_eq_decide.2 ?_;omega)
  exact SMg
 refine zy rfl ?_ ?_<;>intro t<;>try simp only[qs] at t
 ·have c : ¬(0<=mode/\mode<=4):=t
  refine Sr λ_ a9=>za rfl (za rfl (zz (a9 ?_)));refine zr (zr2 rfl rfl rfl ?_);refine ⟨⟨_,_,rfl,.inl ⟨c,rfl,rfl⟩⟩,b⟩
 have c:0<=mode/\mode<=4:=by have:=t;omega
 refine zkk (b0 (Sr λ_ k=>zg b8 rfl ?_));refine WL.buildSlice (m:=1) (cs:=[.bool D,B,.int .i64 x,.bool F,C,.int .i64 y]) oD oD rfl oR rfl λa5 a6 p=>?_;have f:=p.chg;have Z:BK a6 a5 161 [.bool D,B,.int .i64 x,.bool F,C,.int .i64 y]:=p.at_;have b:=b.trans f;have z:=z.q5 f;have A:=A.q5 f;refine WL.call hasF250 rfl rfl (forms_spec a5 D F B C ln ld x y _ Z z A (s.q5 b) b6 b7) λv w1 h'=>?_;obtain ⟨hF,a4⟩:=h';have b:=b.ta a4;rcases hF with ⟨d,rfl⟩|⟨d,b3,rfl⟩|⟨d,j,o,n,l,g,rfl⟩|⟨d,j,o,n,l,g,gg,cc,rx,ry,rfl,b2,c0,b9⟩
 ·refine zm rfl (zx rfl rfl (zx rfl rfl (za rfl (za rfl (zz (k (zc λ_ d7=>CW.block (Sr λ_ X=>zm rfl (zN rfl rfl (za rfl (zz (X ?_))))))))))));refine CW.nZ rfl ?_;refine Sr λ_ V=>zm rfl (za rfl (za rfl (zz (V ?_))));refine zr (zr2 rfl rfl rfl ?_);refine ⟨⟨_,_,rfl,.inr ⟨c,.inl ⟨d,rfl,rfl⟩⟩⟩,b⟩
 ·refine zm rfl (zx rfl rfl (zx rfl rfl (za rfl (za rfl (zz (k (zc λ_ c8=>CW.block (Sr λ_ U=>zm rfl (zN rfl rfl (za rfl (zz (U ?_))))))))))));refine CW.nZ rfl ?_;refine Sr λ_ T=>zm rfl (za rfl (za rfl (zz (T ?_))));refine zr (zr2 rfl rfl rfl ?_);refine ⟨⟨_,_,rfl,.inr ⟨c,.inr (.inl ⟨d,b3,rfl,rfl⟩)⟩⟩,b⟩
 ·refine zm rfl (zx rfl rfl (zx rfl rfl (za rfl (za rfl (zz (k (zc λ_ c7=>CW.block (Sr λ_ R=>zm rfl (zN rfl rfl (za rfl (zz (R ?_))))))))))));refine CW.nZ rfl ?_;refine Sr λ_ Q=>zm rfl (za rfl (za rfl (zz (Q ?_))));refine zr (zr2 rfl rfl rfl ?_);refine ⟨⟨_,_,rfl,.inr ⟨c,.inr (.inr ⟨d,j,o,n,l,.inl ⟨g,rfl,rfl⟩⟩)⟩⟩,b⟩
 have i:=iJ n;have h:=iJ l;refine zm rfl (zx rfl rfl (zx rfl rfl (za rfl (za rfl (zz (k (zc λ_ O=>CW.block (Sr λ_ M=>zm rfl (zN rfl rfl (za rfl (zz (M ?_))))))))))));refine CW.oX rfl ?_;refine Sr λ_ J=>zm rfl (zm rfl (zv rfl (zv rfl (zv rfl (zv rfl (zv rfl (ze rfl rfl (za rfl (zz (J ?_))))))))));refine CW.oX rfl ?_;refine Sr λ_ I=>zm rfl (za rfl (zz (I ?_)));refine CW.oX rfl ?_;refine zkk (O (Sr λ_ H=>zm rfl (zm rfl ?_)));refine WL.ev (Ev.indexAddr rfl rfl oO oO) rfl ?_;rw[show 0+(0:Int).toNat*6=0 from rfl];refine WL.ev (Ev.avq (cs:=clx j o rx ry) rfl rfl rfl b2) rfl ?_;unfold clx;refine WL.call hasF252 rfl rfl (dzq j.neg o.neg rx ry j.m o.m j.e o.e _ c0 b9 i.len h.len g i.e h.e (s.q5 b)) λv w2 h'=>?_;obtain ⟨⟨c4,a,⟨rq,rfl,c1⟩,a1⟩,a3⟩:=h';have b:=b.ta a3;refine zm rfl ?_;refine WL.callV (cap:=[]) hasF76 rfl rfl rfl (by rw[List.append_nil];exact c1x _ _ _ _ mode _ c1 (s.q5 b) (by have:=(aboutD_ok (neg:=j.neg) (cut:=decide (a≠0)) (e:=(bl j.m:Int)-(bl o.m:Int)-81+j.e-o.e) a1.w).e;omega)) λd2 d1 c2=>?_;obtain ⟨⟨bits,ee,rfl,a0⟩,a2⟩:=c2;have b:=b.trans a2;rw[g6] at a0;refine zx rfl rfl (zx rfl rfl (za rfl (za rfl (zz (H ?_)))));refine zr (zr2 rfl rfl rfl ?_);obtain ⟨r,q1,q2,q3,q4⟩:=quot_round i h g c a1 a0;refine ⟨⟨_,_,rfl,.inr ⟨c,.inr (.inr ⟨d,j,o,n,l,.inr ⟨g,r,q1,q2,q3,q4⟩⟩)⟩⟩,b⟩
theorem b7j(k l:Bool)(i j:Value)(m n:List Nat)(d f mode:Int)(w:World)(g:NU w i m)(h:NU w j n)(C:GW w)(r : -9223372036854775808<=d/\d<=9223372036854775807)(s : -9223372036854775808<=f/\f<=9223372036854775807):Ret Tryz.prog 146 [.agg [.bool k,i,.int .i64 d,.bool l,j,.int .i64 f].toArray,.int .i64 mode] w λu w'=>(∃ bits e,u = .tuple [.float .f64 bits,.int .i64 e].toArray/\buq k l (val m) (val n) d f mode bits e)/\Chg [] w w':=by
 have a:=crf w;have A:=g.one;have B:=h.one;have q:=C;refine zE2 Tryz.func146 rfl ?_;refine Sr λ_ p=>?_;refine zBh rfl rfl rfl a λH z t b y c a=>?_;have g:=g.q5 b;have h:=h.q5 b;refine za rfl (za rfl (zz (p (Sr λ_ o=>zg t rfl (zm rfl ?_)))));refine WL.call hasF218 rfl rfl (rounded_spec k l i j m n d f mode _ g h (q.q5 a) r s) λv G F=>?_;obtain ⟨⟨bits,e,rfl,D⟩,x⟩:=F;have a:=a.ta x;refine zx rfl rfl (zx rfl rfl (za rfl (za rfl (zz (o ?_)))));refine zr (zr2 rfl rfl rfl ?_);exact ⟨⟨_,_,rfl,D⟩,a⟩
end
section
open Go Sx Wd
set_option exponentiation.threshold 9000
def fvN(x:Nat):Nat:=if (j0 x).cls=1\/(j0 x).cls=2 then (j0 x).frac*2^((j0 x).exp+2148).toNat else 0
def fvI(x:Nat):Int:=if (j0 x).neg=true then -(fvN x:Int) else (fvN x:Int)
theorem b64(e:Nat):18446744073709551616^(e/64)*2^(e%64)=2^e:=by
  rw[show (18446744073709551616:Nat)=2^64 from rfl,<- Nat.pow_mul,<- Nat.pow_add]
  congr 1;omega
theorem fvN_lt(x:Nat):fvN x<2^3172:=by
  unfold fvN
  split
  · rename_i h
    obtain ⟨f,e,d,c⟩:=ceq h
    have b:2^((j0 x).exp+2148).toNat<=2^3119:=Nat.pow_le_pow_right oD oO
    have a:(j0 x).frac*2^((j0 x).exp+2148).toNat<9007199254740992*2^3119:=Nat.lt_of_lt_of_le (Nat.mul_lt_mul_of_pos_right c (Nat.two_pow_pos _)) (Nat.mul_le_mul_left _ b)
    rw[show (9007199254740992:Nat)=2^53 from rfl,<- Nat.pow_add] at a
    exact a
  · exact Nat.two_pow_pos _
theorem c8q{x y:Nat}(o:(j0 x).cls<=2)(n:(j0 y).cls<=2):thv (dkx x y)*(2^2148:Nat)=fvI x*fvI y:=by
  unfold dkx
  rw[if_neg oO,if_neg oO]
  by_cases h:(j0 x).cls=0\/(j0 y).cls=0
  · rw[if_pos h]
    have e:fvN x=0\/fvN y=0:=by
      unfold fvN
      rcases h with h|h
      · left;rw[if_neg oO]
      · right;rw[if_neg oO]
    have g:fvI x*fvI y=0:=by
      unfold fvI
      rcases e with e|e
      · rw[e];simp
      · rw[e];simp
    rw[g]
    unfold thv
    simp
  · rw[if_neg h]
    have b:(j0 x).cls=1\/(j0 x).cls=2:=by omega
    have a:(j0 y).cls=1\/(j0 y).cls=2:=by omega
    obtain ⟨t,s,r,q⟩:=ceq b
    obtain ⟨m,l,k,j⟩:=ceq a
    unfold thv
    dsimp only
    rw[if_pos (.inr rfl),laidW_val (Nat.mod_lt _ oD) (Nat.mod_lt _ oD)]
    have i:(j0 x).frac*(j0 y).frac/18446744073709551616*18446744073709551616+(j0 x).frac*(j0 y).frac%18446744073709551616=(j0 x).frac*(j0 y).frac:=Nat.div_add_mod' ..
    rw[i]
    have e:(j0 x).frac*(j0 y).frac*2^(((j0 x).exp+(j0 y).exp+2148).toNat%64)*18446744073709551616^(((j0 x).exp+(j0 y).exp+2148).toNat/64)*2^2148=fvN x*fvN y:=by
      unfold fvN
      rw[if_pos b,if_pos a]
      have f:=b64 ((j0 x).exp+(j0 y).exp+2148).toNat
      have d:2^((j0 x).exp+(j0 y).exp+2148).toNat*2^2148=2^((j0 x).exp+2148).toNat*2^((j0 y).exp+2148).toNat:=by
        rw[<- Nat.pow_add,<- Nat.pow_add];congr 1;omega
      calc _=(j0 x).frac*(j0 y).frac*((18446744073709551616^(((j0 x).exp+(j0 y).exp+2148).toNat/64)*2^(((j0 x).exp+(j0 y).exp+2148).toNat%64))*2^2148):=by ac_rfl
        _=(j0 x).frac*(j0 y).frac*(2^((j0 x).exp+2148).toNat*2^((j0 y).exp+2148).toNat):=by rw[f,d]
        _=_:=by ac_rfl
    generalize (j0 x).frac*(j0 y).frac*2^(((j0 x).exp+(j0 y).exp+2148).toNat%64)*18446744073709551616^(((j0 x).exp+(j0 y).exp+2148).toNat/64)=p at e
    have c:(p:Int)*(2^2148:Nat)=(fvN x:Int)*(fvN y:Int):=by rw[<- Int.natCast_mul,e,Int.natCast_mul]
    unfold fvI
    cases (j0 x).neg<;>cases (j0 y).neg<;>simp only[bne_self_eq_false,Bool.true_bne,Bool.false_bne,Bool.not_false,Bool.not_true,if_true,if_false,Bool.false_eq_true,Int.neg_mul,Int.mul_neg,Int.neg_neg]<;>rw[c]
theorem cyx{x y:Nat}(d:(j0 x).cls<=2)(c:(j0 y).cls<=2):(thv (dkx x y)).natAbs<2^4196:=by
  have h:=c8q d c
  have g:=fvN_lt x
  have f:=fvN_lt y
  have e:(fvI x*fvI y).natAbs=fvN x*fvN y:=by
    rw[Int.natAbs_mul]
    unfold fvI
    split<;>split<;>simp
  have b:fvN x*fvN y<2^3172*2^3172:=Nat.mul_lt_mul_of_lt_of_lt g f
  rw[<- Nat.pow_add] at b
  rw[<- e,<- h,Int.natAbs_mul,Int.natAbs_natCast] at b
  apply Nat.lt_of_mul_lt_mul_right (a:=2^2148)
  rw[<- Nat.pow_add];exact b
def axq(l:List Nat):Int:=(l.map fvI).sum
theorem fvI_abs(x:Nat):(fvI x).natAbs=fvN x:=by unfold fvI;split<;>simp
theorem sumI_le : ∀ (l:List Nat),(axq l).natAbs<=l.length*2^3172
  | []=>by simp[axq]
  | x::l=>by
    have h1:=sumI_le l
    have h2:=fvN_lt x
    have h3:=fvI_abs x
    have e:axq (x::l)=fvI x+axq l:=by simp[axq]
    rw[e,List.length_cons,Nat.add_mul,Nat.one_mul]
    generalize 2^3172=B at *
    generalize l.length*B=C at *
    omega
theorem b2q:16384*BB=2^4238:=by
  unfold BB
  rw[show (18446744073709551616:Nat)=2^64 from rfl,<- Nat.pow_mul,show (16384:Nat)=2^14 from rfl,<- Nat.pow_add]
theorem sumI_in{l:List Nat}(h:l.length<=1099511627776): -((16384*BB:Nat):Int)<axq l/\axq l<(16384*BB:Nat):=by
  have c:=sumI_le l
  have a:l.length*2^3172<2^41*2^3172:=Nat.mul_lt_mul_of_pos_right oO (Nat.two_pow_pos _)
  rw[<- Nat.pow_add] at a
  have b:2^(41+3172)<=16384*BB:=by rw[b2q];exact Nat.pow_le_pow_right oD oD
  generalize 16384*BB=M at *
  generalize 2^(41+3172)=M2 at *
  omega
end
section
open Go Sx Wd
set_option exponentiation.threshold 5000
theorem clean_spec(f j x:Nat)(e:Int)(w:World)(i:BK w f 31 [.float .f64 x])(g:BK w j 47 [.int .i64 e])(o:f≠j):d0j Tryz.prog 176 [.pointer (some ⟨f,0,none⟩),.pointer (some ⟨j,0,none⟩)] w λu w'=>BK w' f 31 [.float .f64 (if e=0 then x else 0)]/\BK w' j 47 [.int .i64 e]/\Chg [f] w w':=by
  have b:Chg [f] w w:=Chg.refl _ _
  refine d0j.enter Tryz.func176 rfl rfl ?_
  simp only[b1x,Nat.zero_add,Nat.reduceAdd]
  refine Sq λ_ m _ l=>?_
  refine Mv rfl rfl ?_
  refine WL.ev (Ev.nilPtr rfl) rfl ?_
  refine WL.ev (Ev.load rfl rfl (g.at_ rfl)) rfl ?_
  refine WL.ev (Ev.neq rfl rfl) rfl ?_
  refine WL.nil (l _ _ _ (m _ _ _ ?_))
  refine zy rfl (λa=>?_) λa=>?_
  ·
    (try simp only[qs] at a)
    have d:e≠0:=a
    refine zR λ_ k=>?_
    refine Mv rfl rfl ?_
    refine WL.ev (Ev.nilPtr rfl) rfl ?_
    refine WL.bJ rfl rfl o1 i oS rfl λn h c=>?_
    (try simp only[qt] at h)
    have b:=b.s1 c
    have g:=g.kq c
    have i:=h
    refine WL.nil (k _ _ _ ?_)
    refine k8.czq rfl ?_
    refine ⟨?_,g,b⟩
    rw[if_neg d];exact i
  ·
    (try simp only[qs] at a)
    have d:e=0:=by have:=a;omega
    refine zkk ?_
    refine k8.czq rfl ?_
    refine ⟨?_,g,b⟩
    rw[if_pos d];exact i
theorem cgq{fn:Func}{n:Nat}{s:Sl}{w:World}{R:Value->World->Prop}{f d a b x:Nat}{e:Int}(j:fn.results = #[.cell f 31,.cell d 47])(i:Sx.look s f=some (.pointer (some ⟨a,0,none⟩)))(g:Sx.look s d=some (.pointer (some ⟨b,0,none⟩)))
    (l:BK w a 31 [.float .f64 x]) (k:BK w b 47 [.int .i64 e]) (c:a≠b) (h : ∀ w',Chg [a] w w'->R (.tuple [.float .f64 (if e=0 then x else 0),.int .i64 e].toArray) w') :
    d9j Tryz.prog fn n 176 R .ret [⟨.fn (.func 176) #[],[.pointer (some ⟨a,0,none⟩),.pointer (some ⟨b,0,none⟩)].toArray⟩] s w:=
  d9j.gJ j rfl ((clean_spec a b x e w l k c).mono λ_ w' ⟨q6,q7,hc⟩=>⟨_,_,aX.cell i (q6.var1 rfl rfl),aX.cell g (q7.var1 rfl rfl),h w' hc⟩)
theorem right_spec(mode:Int)(w:World):Ret Tryz.prog 177 [.int .i64 mode] w λu w'=>u = .bool (decide (0<=mode/\mode<=4))/\w=w':=by
 refine zE1 Tryz.func177 rfl ?_;refine Sr λ_ c=>za rfl (zz (c (Sr λ_ b=>zm rfl ?_)));refine WL.ev (Ev.geq rfl rfl) rfl ?_;refine zm rfl ?_;refine zb ?_ ?_<;>intro a<;>try simp only[qs] at a
 ·have d:0<=mode:=a
  refine zw rfl (zm rfl (zw rfl (zQ rfl rfl (zt rfl rfl (za rfl (zz (b ?_)))))));refine zr (zr1 rfl rfl ?_);refine ⟨congrArg Value.bool (decide_eq_decide.2 oO),rfl⟩
 have d : ¬0<=mode:=by have:=a;omega
 refine zv rfl (zv rfl (ze rfl rfl (za rfl (zz (b ?_)))));refine zr (zr1 rfl rfl ?_);refine ⟨?_,rfl⟩;rw[decide_eq_false oO]
def toldR(d:Dy)(n:Nat)(s:SP)(mode:Int)(bits:Nat)(e:Int):Prop:=
  (d.m=0/\bits=acj s mode/\e=0)\/(d.m≠0/\buq d.neg (cZ n).neg d.m (cZ n).m d.e (cZ n).e mode bits e)
theorem wZ{n:Int}(h:n.natAbs<18446744073709551616):(cZ n).ok:=iJ (bfj h)
theorem ok_e{d:Dy}(h:d.ok): -9223372036854775808<=d.e/\d.e<=9223372036854775807:=by have:=h.e;omega
theorem told_spec(d:Dy)(r:Value)(n:Nat)(s:SP)(mode:Int)(w:World)(g:NU w r (wd d.m))(Q:d.ok)(hn:n<=1099511627776)(hs:s.le 1000000000000000)(hg:GW w):Ret Tryz.prog 179 [.agg [.bool d.neg,r,.int .i64 d.e].toArray,.int .i64 (n:Int),.agg [.int .i64 (s.na:Int),.int .i64 (s.up:Int),.int .i64 (s.dn:Int),.int .i64 (s.mi:Int),.int .i64 (s.pl:Int),.int .i64 (s.al:Int)].toArray,.int .i64 mode] w λu w'=>(∃ bits e,u = .tuple [.float .f64 bits,.int .i64 e].toArray/\toldR d n s mode bits e)/\Chg [] w w':=by
 have a:=crf w;have a1:=g.one;have z:=hg;refine zE4 Tryz.func179 rfl ?_;refine Sr λ_ M=>?_;refine zBh rfl rfl rfl a λb4 X b A T x a=>?_;have g:=g.q5 A;refine zBh rfl rfl rfl a λb6 V o i y t a=>?_;have g:=g.q5 i;have D:=zdd b.lt y;have b:=b.k0 i;refine za rfl (za rfl (zz (M (zc λ_ J=>Sr λ_ I=>zg b rfl ?_))));refine WL.call hasF74 rfl rfl (ajj d.neg r (wd d.m) d.e _ g) λv w1 q=>?_;obtain ⟨rfl,f⟩:=q;rw[g6];have a:=a.ta f;have b:=b.k0 f;have o:=o.k0 f;have g:=g.q5 f;refine zq rfl rfl (zz (I ?_));refine zy rfl ?_ ?_<;>intro l<;>try simp only[qs] at l
 ·have R:d.m=0:=a7j.1 l
  refine Sr λ_ H=>zg o rfl (zm rfl ?_);refine WL.call hasF75 rfl rfl (b2x s mode _ hs) λv w2 q=>?_;obtain ⟨rfl,C⟩:=q;have a:=a.ta C;refine za rfl (za rfl (zz (H ?_)));refine zr (zr2 rfl rfl rfl ?_);exact ⟨⟨_,_,rfl,.inl ⟨R,rfl,rfl⟩⟩,a⟩
 have R:d.m≠0:=λe=>l (a7j.2 e);refine zkk (J (zc λ_ G=>?_));refine CW.bZ 10 rfl cJ λZ F c k=>?_;have a:=a.ta k;have b:=b.k0 k;have g:=g.q5 k;have p:=b;refine wh 0 rfl c (λ_ O=>Ev.oQ rfl rfl (p.q5 O) rfl) (wh 1 rfl c (eM rfl) (wh 4 rfl c (eM rfl) ?_));refine WH.k6 2 rfl oR hasF144 rfl rfl (bcx (n:Int) _ (z.q5 a) oO) λv w3 q=>?_;obtain ⟨⟨Y,rfl,B⟩,h⟩:=q;have a:=a.ta h;have g:=g.q5 h;have c:=c.trans h;refine ⟨c,?_⟩;refine wh 3 rfl c (λ_ _=>Ev.build (vs:=_) (cs:=[_,_,_,_,_,_]) rfl rfl) ?_;refine WH.k6 5 rfl oR hasF146 rfl rfl (b7j d.neg (cZ n).neg r Y (wd d.m) (wd (cZ n).m) d.e (cZ n).e mode _ g B (z.q5 a) (ok_e Q) (ok_e (wZ oO))) λv w4 q=>?_;obtain ⟨⟨bits,e,rfl,U⟩,j⟩:=q;rw[g6,g6] at U;have a:=a.ta j;have c:=c.trans j;refine ⟨c,?_⟩;refine wh 6 rfl c (eX rfl rfl) (wh 7 rfl c (eX rfl rfl) (wh 8 rfl c (eA rfl) (wh 9 rfl c (eA rfl) ?_)));refine WH.done oR (F _ _ _ ?_);refine G ?_;refine zr (zr2 rfl rfl rfl ?_);exact ⟨⟨_,_,rfl,.inr ⟨R,U⟩⟩,a⟩
end
section
open Go Sx Wd
set_option exponentiation.threshold 5000
def isF64:Value->Bool
  | .float .f64 _=>true
  | _=>false
theorem buq.err{a b:Bool}{c d:Nat}{f g mode:Int}{bits:Nat}{e:Int}(h:buq a b c d f g mode bits e):(if e=0 then bits else 0)=bits:=by
  rcases h with ⟨_,rfl,rfl⟩|⟨_,⟨_,rfl,rfl⟩|⟨_,_,rfl,rfl⟩|⟨_,x,y,_,_,⟨_,rfl,rfl⟩|⟨_,r,_,_,_,rfl⟩⟩⟩<;>simp
theorem toldR.err{d:Dy}{n:Nat}{s:SP}{mode:Int}{bits:Nat}{e:Int}(h:toldR d n s mode bits e):(if e=0 then bits else 0)=bits:=by
  rcases h with ⟨_,_,rfl⟩|⟨_,h⟩
  · simp
  · exact h.err
def meanR(l:List Nat)(mode pn pi:Int)(bits:Nat)(e:Int):Prop:=
  (¬(0<=mode/\mode<=4)/\bits=0/\e=1)\/((0<=mode/\mode<=4)/\
    ((a0j l pn pi≠0/\bits=0/\e=a0j l pn pi)\/(a0j l pn pi=0/\
      ((lQ (a5q l) pn pi=some bits/\e=0)\/(lQ (a5q l) pn pi=none/\
        ((bhj l=[]/\bits=0/\e=3)\/(bhj l≠[]/\toldR (dJ (axq (bhj l))) (bhj l).length (a5q l) mode bits e)))))))
end
namespace Fl
open Go
def isNaN(b:Nat):Bool:=decide (9218868437227405312<b%9223372036854775808)
def canon(b:Nat):Nat:=if isNaN b then 9221120237041090560 else b
def key(b:Nat):Int:=if isNaN b then 9223372036854775807 else if 9223372036854775808<=b then -1-((b:Int)-9223372036854775808) else b
def place(b:Nat):Int:=if 9223372036854775808<=canon b then -1-((canon b:Int)-9223372036854775808) else canon b
def c2q(a b:Int):Int:=if a<b then -1 else if b<a then 1 else 0
theorem bgx:Ieee.double.signWeight=9223372036854775808:=by decide
theorem bsq:Ieee.double.infRung=9218868437227405312:=by decide
theorem bsj:Ieee.double.binade=4503599627370496:=by decide
theorem cmp_self(x:Int):compare x x = .eq:=by simp
theorem cmpN_self(x:Nat):compare x x = .eq:=by simp
theorem brj(b:Nat):(FloatKind.f64.format.order b b != some .eq)=isNaN b:=by
  show ((Ieee.double.read b).order (Ieee.double.read b) != some .eq)=isNaN b
  unfold Ieee.Format.read isNaN
  simp only[bgx,bsq,bsj]
  split
  · rename_i h
    have a:decide (9218868437227405312<b%9223372036854775808)=false:=by simp;omega
    rw[a]
    simp[Ieee.Datum.order,cmp_self]
  · split
    · rename_i h h'
      have a:decide (9218868437227405312<b%9223372036854775808)=false:=by simp;omega
      rw[a]
      simp[Ieee.Datum.order,cmp_self]
    · split
      · rename_i h h' h3
        have a:decide (9218868437227405312<b%9223372036854775808)=false:=by simp;omega
        rw[a]
        simp[Ieee.Datum.order,cmpN_self]
      · rename_i h h' h3
        have a:decide (9218868437227405312<b%9223372036854775808)=true:=by simp;omega
        rw[a]
        simp[Ieee.Datum.order]
theorem caq(b:Nat):(FloatKind.f64.format.order b b==some .eq) = !isNaN b:=by
  rw[<- brj b];simp[bne]
theorem signed_zero(k:Nat):Ieee.signed false 0 k=0:=by simp[Ieee.signed]
theorem signed_eq(s:Bool)(m k:Nat):Ieee.signed s m k=0↔m=0:=by
  have b:0<2^k:=Nat.two_pow_pos k
  have a:m*2^k=0↔m=0:=by
    constructor
    · intro h;rcases Nat.mul_eq_zero.1 h with h|h
      · exact h
      · omega
    · intro h;simp[h]
  unfold Ieee.signed
  rw[Nat.shiftLeft_eq]
  split<;>omega
theorem cmp_eq(x y:Int):(some (compare x y)==some Ordering.eq)=decide (x=y):=by
  rw[Bool.eq_iff_iff];simp
theorem d4j(s:Bool)(m:Nat)(i:Int)(j:Int):(Ieee.Datum.order (.number s m i) (.number false 0 j)==some .eq)=decide (m=0):=by
  unfold Ieee.Datum.order
  simp only[signed_zero]
  rw[cmp_eq,Bool.eq_iff_iff]
  simp[signed_eq]
theorem read_zero:Ieee.double.read 0 = .number false 0 Ieee.double.leastPlace:=by decide
theorem order_zero(b:Nat):(FloatKind.f64.format.order b 0==some .eq)=decide (b%9223372036854775808=0):=by
  show ((Ieee.double.read b).order (Ieee.double.read 0)==some .eq)=_
  rw[read_zero]
  unfold Ieee.Format.read
  simp only[bgx,bsq,bsj]
  split
  · rw[d4j]
  · split
    · rename_i h h'
      rw[d4j,Bool.eq_iff_iff]
      simp;omega
    · split
      · rename_i h h' h3
        have a:decide (b%9223372036854775808=0)=false:=by simp;omega
        rw[a]
        simp only[Ieee.Datum.order]
        split<;>rfl
      · rename_i h h' h3
        have a:decide (b%9223372036854775808=0)=false:=by simp;omega
        rw[a]
        rfl
theorem canon_lt{b:Nat}(h:b<18446744073709551616):canon b<18446744073709551616:=by
  unfold canon;split<;>omega
theorem key_pos_eq{b:Nat}(a:isNaN b=false)(h:b<9223372036854775808):key b=b:=by
  unfold key;rw[a];simp;omega
theorem key_neg_eq{b:Nat}(a:isNaN b=false)(h:9223372036854775808<=b):key b = -1-((b:Int)-9223372036854775808):=by
  unfold key;rw[a];simp;omega
end Fl
section
open Go Sx Wd
theorem coq(x:Nat):(j0 x).cls<=2↔x%9223372036854775808<9218868437227405312:=by
  have e:x%9223372036854775808<9218868437227405312↔x/4503599627370496%2048≠2047:=by omega
  rw[e]
  unfold j0
  split
  · rename_i h;simp;exact h.1
  · split
    · rename_i h1 h;simp;exact h
    · split
      · rename_i h2 h1 h;simp;exact h1
      · split
        · rename_i h2 h1 h;simp;exact h2
        · rename_i h2 h1 h;simp;exact h2
section
variable {P:Program} {n:Nat} {D:List Deferred} {s:Sl} {w:World} {ops:Array Oper} {K:KK} {rest:List Oper} {ty:TypeId} {pos:String} {af:Array Edge} {d:Nat} {x y:Operand}
end
end
section
open Go Sx Wd
set_option exponentiation.threshold 5000
def finL(l:List Nat):Prop:=∀ x∈l,(j0 x).cls<=2
instance (l:List Nat):Decidable (finL l):=by unfold finL;exact inferInstance
end
section
open Go Sx Wd
set_option exponentiation.threshold 5000
theorem d1j:dJ 0=Dy.zero:=rfl
theorem d2x{S:Int}(b : -((16384*BB:Nat):Int)<S)(a:S<(16384*BB:Nat))(c:S≠0):dJ S=⟨decide (S<0),S.natAbs/2^tz S.natAbs,-2148+tz S.natAbs⟩:=by
  unfold dJ
  rw[c4q b a,if_neg c];rfl
theorem sumD_m0{S:Int}(b : -((16384*BB:Nat):Int)<S)(a:S<(16384*BB:Nat)):(dJ S).m=0↔S=0:=by
  constructor
  · intro h
    apply Classical.byContradiction
    intro c
    rw[d2x b a c] at h
    have:=(akx (n:=S.natAbs) oO).1
    simp only at h
    rw[h] at this;cases this
  · intro h;rw[h];rfl
theorem sumD_sg{S:Int}(b : -((16384*BB:Nat):Int)<S)(a:S<(16384*BB:Nat)):sgD (dJ S).neg (dJ S).m=if S<0 then -1 else if S=0 then 0 else 1:=by
  by_cases h0:S=0
  · subst h0;rfl
  · have c:(dJ S).m≠0:=λe=>h0 ((sumD_m0 b a).1 e)
    unfold sgD
    rw[if_neg c,d2x b a h0]
    by_cases h:S<0
    · simp[h]
    · simp[h,h0]
end
section
open Go Sx Wd
set_option exponentiation.threshold 5000
theorem NF.acq{w:World}{a:Option Addr}{l:List Nat}{k c:Nat}(h:RW w a (l.map bix))(b : ∀ x∈l,x<18446744073709551616)(d:l.length<=70368744177664)(e:k=l.length)(f:k<=c):NF w (.slice a k c) l:=by
  subst e
  exact ⟨⟨a,c,rfl,f,h⟩,b,d⟩
def ofR(neg:Bool)(m:Nat)(ex n mode:Int)(bits:Nat)(e:Int):Prop:=
  (¬((0<=mode/\mode<=4)/\1<=n/\n<=1099511627776)/\bits=0/\e=1)\/(((0<=mode/\mode<=4)/\1<=n/\n<=1099511627776)/\
    ((cQ neg m ex=none/\bits=0/\e=2)\/∃ d,cQ neg m ex=some d/\toldR d n.toNat SP.zero mode bits e))
theorem mOf_spec(na:Bool)(va:Value)(la:List Nat)(ea n mode:Int)(w:World)(M:NU w va la)(hg:GW w)(c6 : -9223372036854775808<=ea/\ea<=9223372036854775807):Ret Tryz.prog 101 [.agg [.bool na,va,.int .i64 ea].toArray,.int .i64 n,.int .i64 mode] w λu w'=>(∃ bits e,u = .tuple [.float .f64 bits,.int .i64 e].toArray/\ofR na (val la) ea n mode bits e)/\Chg [] w w':=by
 have a:=crf w;have a5:=hg;have e5:=M.one;have e7:=M;refine Ret.enterD 176 hasF176 Tryz.func101 rfl rfl ?_;simp only[b1x,Nat.zero_add,Nat.reduceAdd];refine Sr λ_ c3=>?_;refine zBh rfl rfl rfl a λb3 e3 g a6 d9 a4 a=>?_;have M:=M.q5 a6;refine WL.iQ (l:=[.float .f64 0]) rfl rfl λb6 e2 c G Q=>?_;have a3:=Nat.le_trans a.size Q;have a:=a.ta G;have M:=M.q5 G;have b2:=zdd g.lt Q;have g:=g.k0 G;refine WL.iQ (l:=[.int .i64 0]) rfl rfl λb7 e1 b o t=>?_;have a2:=Nat.le_trans a.size t;have a:=a.ta o;have M:=M.q5 o;have b1:=zdd g.lt t;have g:=g.k0 o;have i:=zdd c.lt t;have c:=c.k0 o;refine zz (c3 (Sr λ_ c2=>?_));refine WL.defer rfl ?_;refine zz (c2 (zc λ_ c1=>?_));refine CW.oJ 18 (decide (¬((0<=mode/\mode<=4)/\1<=n/\n<=1099511627776))) ?_ ?_
 ·refine zS λ_ R=>zm rfl ?_;refine WL.call hasF177 rfl rfl (right_spec mode _) λv w1 h'=>?_;obtain ⟨rfl,rfl⟩:=h';refine zT rfl (zm rfl ?_);refine zb ?_ ?_<;>intro T<;>try simp only[qs] at T
  ·have hq : ¬(0<=mode/\mode<=4):=by simpa using T
   refine zv rfl (zv rfl (zt rfl rfl (zm rfl (zv rfl (zv rfl (zt rfl rfl (zz (R ?_))))))));refine ⟨rfl,rfl,q9.g7 rfl ?_ ?_⟩
   ·first|(simp;omega)|(refine decide_eq_decide.2 ?_;omega)
   exact SMg
  have hq:0<=mode/\mode<=4:=by simpa using T
  refine zw rfl (zm rfl (zw rfl (zL rfl rfl (ze rfl rfl (zm rfl ?_)))));refine zb ?_ ?_<;>intro c5<;>try simp only[qs] at c5
  ·refine zv rfl (zv rfl (zt rfl rfl (zz (R ?_))));refine ⟨rfl,rfl,q9.g7 rfl ?_ ?_⟩
   ·first|(simp;omega)|(refine decide_eq_decide.2 ?_;omega)
   exact SMg
  refine zw rfl (zm rfl (zw rfl (zG rfl rfl (ze rfl rfl (zz (R ?_))))));refine ⟨rfl,rfl,q9.g7 rfl ?_ ?_⟩
  ·first|(simp;omega)|(refine decide_eq_decide.2 ?_;omega)
  exact SMg
 refine zy rfl ?_ ?_<;>intro U<;>try simp only[qs] at U
 ·have a7 : ¬((0<=mode/\mode<=4)/\1<=n/\n<=1099511627776):=U
  refine Sr λ_ c0=>?_;refine WL.bJ rfl rfl o1 c oS rfl λd6 h F=>?_;(try simp only[qt] at h);have a:=a.s1 F;have b:=b.kq F;have c:=h;refine WL.bJ rfl rfl o1 b oS rfl λd5 f D=>?_;(try simp only[qt] at f);have a:=a.s1 D;have c:=c.kq D;have b:=f;refine zz (c0 ?_);refine zr ?_;refine cgq rfl rfl rfl c b i λw9 H=>?_;have a:=a.step H (λy O=>by simp only[List.mem_singleton] at O;subst O;exact .inr oO);exact ⟨⟨_,_,rfl,.inl ⟨a7,rfl,rfl⟩⟩,a⟩
 have s:(0<=mode/\mode<=4)/\1<=n/\n<=1099511627776:=by have:=U;omega
 refine zkk (c1 (Sr λ_ V=>zf rfl (zl g rfl rfl (zf rfl (zl g rfl rfl (zf rfl (zl g rfl rfl ?_)))))));refine WL.call hasF178 rfl rfl (a7x na va la ea _ M (a5.q5 a) c6) λv w2 h'=>?_;obtain ⟨a8,q⟩:=h';have a:=a.ta q;have g:=g.k0 q;have c:=c.k0 q;have b:=b.k0 q;rcases a8 with ⟨r,d,hd,rfl,I⟩|⟨hd,rfl⟩
 ·have c4:=iJ hd;refine zm rfl (zx rfl rfl (zx rfl rfl ?_));refine zss rfl rfl ao g rfl λd4 p k=>?_;(try simp only[qt] at p);have a:=a.s1 k;have c:=c.kq k;have b:=b.kq k;have I:=I.q8 g k an;have g:=p;refine WL.bJ rfl rfl o1 b oS rfl λd3 f j=>?_;(try simp only[qt] at f);have a:=a.s1 j;have g:=g.kq j;have c:=c.kq j;have I:=I.q8 b j an;have b:=f;refine zz (V (zc λ_ a1=>Sr λ_ a0=>zl b rfl rfl (zN rfl rfl (zz (a0 ?_)))));refine CW.oX rfl ?_;refine zkk (a1 (Sr λ_ Z=>zg g rfl (zm rfl ?_)));rw[show n=((n.toNat:Nat):Int) by omega];refine WL.ev (Ev.build (vs:=_) (cs:=[_,_,_,_,_,_]) rfl rfl) rfl ?_;refine zm rfl ?_;refine WL.call hasF179 rfl rfl (told_spec d r n.toNat SP.zero mode _ I c4 oO ⟨by decide,by decide,by decide,by decide,by decide,by decide⟩ (a5.q5 a)) λv w3 h'=>?_;obtain ⟨⟨bits,e,rfl,hT⟩,J⟩:=h';have a:=a.ta J;have c:=c.k0 J;have b:=b.k0 J;refine zx rfl rfl (zx rfl rfl ?_);refine WL.bJ rfl rfl o1 c oS rfl λd2 h C=>?_;(try simp only[qt] at h);have a:=a.s1 C;have b:=b.kq C;have c:=h;refine WL.bJ rfl rfl o1 b oS rfl λd1 f B=>?_;(try simp only[qt] at f);have a:=a.s1 B;have c:=c.kq B;have b:=f;refine zz (Z ?_);refine zr ?_;refine cgq rfl rfl rfl c b i λw9 H=>?_;have a:=a.step H (λy O=>by simp only[List.mem_singleton] at O;subst O;exact .inr oO);refine ⟨⟨_,_,rfl,.inr ⟨s,.inr ⟨d,hd,?_⟩⟩⟩,a⟩;rw[hT.err];exact hT
 refine zm rfl (zx rfl rfl (zx rfl rfl ?_));refine zss rfl rfl ao g rfl λd0 p m=>?_;(try simp only[qt] at p);have a:=a.s1 m;have c:=c.kq m;have b:=b.kq m;refine WL.bJ rfl rfl o1 b oS rfl λc9 f A=>?_;(try simp only[qt] at f);have a:=a.s1 A;have c:=c.kq A;have b:=f;refine zz (V (zc λ_ d8=>Sr λ_ Y=>zl b rfl rfl (zN rfl rfl (zz (Y ?_)))));refine CW.nZ rfl ?_;refine Sr λ_ X=>zl b rfl rfl ?_;refine WL.bJ rfl rfl o1 c oS rfl λc8 h z=>?_;(try simp only[qt] at h);have a:=a.s1 z;have b:=b.kq z;have c:=h;refine WL.bJ rfl rfl o1 b oS rfl λc7 f x=>?_;(try simp only[qt] at f);have a:=a.s1 x;have c:=c.kq x;have b:=f;refine zz (X ?_);refine zr ?_;refine cgq rfl rfl rfl c b i λw9 H=>?_;have a:=a.step H (λy O=>by simp only[List.mem_singleton] at O;subst O;exact .inr oO);exact ⟨⟨_,_,rfl,.inr ⟨s,.inl ⟨hd,rfl,rfl⟩⟩⟩,a⟩
end
section
open Go Sx Wd
set_option exponentiation.threshold 9000
theorem cvx{n:Nat}(c:n≠0)(d:n<18446744073709551616): ∃ t:Nat,n=(cZ (n:Int)).m*2^t/\(cZ (n:Int)).e=t/\(cZ (n:Int)).neg=false:=by
  have h:=bfj (n:=(n:Int)) oO
  rw[show decide ((n:Int)<0)=false from decide_eq_false oO,Int.natAbs_natCast] at h
  obtain ⟨t,b,f,a⟩:=d6j h c
  exact ⟨t,b,by omega,a⟩
def MeanQ(S:Int)(n:Nat)(mode:Int)(bits:Nat):Prop:=
  ∃ r,lZ S.natAbs (n*2^1073) (decide (S<0)) mode r/\r<=9218868437227405312/\bits=(if S<0 then r+9223372036854775808 else r)
theorem near_is{A B:Nat}{neg:Bool}{mode:Int}{r:Nat}(a:r<9218868437227405312)(b:0<B)(h:2*nz r*B=A):lZ A B neg mode r:=
  ⟨r,a,Nat.le_of_eq h,.inl (by have:=cfj r;rw[<- h];exact Nat.mul_lt_mul_of_pos_right oO b),by rw[if_pos h]⟩
end
section
open Go Sx Wd
set_option exponentiation.threshold 9000
set_option maxRecDepth 4000
theorem signed_val(s:Bool)(m k:Nat):Ieee.signed s m k=if s then -((m*2^k:Nat):Int) else ((m*2^k:Nat):Int):=by
  unfold Ieee.signed
  rw[Nat.shiftLeft_eq]
theorem splitP_small{x:Nat}(b:x%9223372036854775808<4503599627370496):j0 x=if 0<x%4503599627370496 then ⟨decide (x/9223372036854775808%2=1),1,-1074,x%4503599627370496⟩ else ⟨decide (x/9223372036854775808%2=1),0,-1074,0⟩:=by
  have e:x/4503599627370496%2048=0:=by omega
  unfold j0
  rw[e,if_neg (λa=>absurd a.1 oD),if_neg oD,if_neg oD]
theorem splitP_norm{x:Nat}(d : ¬x%9223372036854775808<4503599627370496)(c:x%9223372036854775808<9218868437227405312):j0 x=⟨decide (x/9223372036854775808%2=1),2,-1074+((x/4503599627370496%2048:Nat):Int)-1,x%4503599627370496+4503599627370496⟩:=by
  have e:x/4503599627370496%2048≠2047:=by omega
  have b:0<x/4503599627370496%2048:=by omega
  unfold j0
  rw[if_neg (λa=>e a.1),if_neg e,if_pos b]
theorem ckj{x:Nat}(h:(j0 x).cls<=2): ∃ (m p:Nat),Ieee.double.read x = .number (x/9223372036854775808%2==1) m ((p:Int)-1074)/\fvN x=m*2^(p+1074)/\nz (x%9223372036854775808)=m*2^p/\(j0 x).neg=decide (x/9223372036854775808%2=1):=by
  have c:=(coq x).1 h
  have b:Ieee.double.leastPlace = -1074:=by decide
  unfold Ieee.Format.read
  simp only[Fl.bgx,Fl.bsq,Fl.bsj,b]
  by_cases h1:x%9223372036854775808<4503599627370496
  · rw[if_pos h1]
    have a:=splitP_small h1
    refine ⟨x%9223372036854775808,0,rfl,?_,?_,?_⟩
    · unfold fvN
      rw[a]
      by_cases h2:0<x%4503599627370496
      · rw[if_pos h2]
        dsimp only
        rw[if_pos (.inl rfl),show x%9223372036854775808=x%4503599627370496 by omega]
        rfl
      · rw[if_neg h2]
        dsimp only
        rw[if_neg oD,show x%9223372036854775808=0 by omega,Nat.zero_mul]
    · unfold nz;rw[if_pos h1];simp
    · rw[a];split<;>rfl
  · rw[if_neg h1,if_pos c]
    have a:=splitP_norm h1 c
    refine ⟨4503599627370496+x%9223372036854775808%4503599627370496,x%9223372036854775808/4503599627370496-1,?_,?_,?_,?_⟩
    · rw[show (-1074:Int)+((x%9223372036854775808/4503599627370496-1:Nat):Int)=((x%9223372036854775808/4503599627370496-1:Nat):Int)-1074 by omega]
    · unfold fvN
      rw[a]
      dsimp only
      rw[if_pos (.inr rfl),show x%4503599627370496+4503599627370496=4503599627370496+x%9223372036854775808%4503599627370496 by omega,show (-1074+((x/4503599627370496%2048:Nat):Int)-1+2148).toNat=x%9223372036854775808/4503599627370496-1+1074 by omega]
    · unfold nz;rw[if_neg h1]
    · rw[a]
theorem fvN_nz{x:Nat}(h:(j0 x).cls<=2):fvN x=nz (x%9223372036854775808)*2^1074:=by
  obtain ⟨m,p,_,b,a,_⟩:=ckj h
  rw[b,a,Nat.pow_add,Nat.mul_assoc]
theorem fvI_nz{x:Nat}(h:(j0 x).cls<=2)(b:x<18446744073709551616):fvI x=if 9223372036854775808<=x then -((nz (x%9223372036854775808)*2^1074:Nat):Int) else ((nz (x%9223372036854775808)*2^1074:Nat):Int):=by
  obtain ⟨m,p,_,_,_,a⟩:=ckj h
  unfold fvI
  rw[a,fvN_nz h]
  by_cases q:9223372036854775808<=x
  · rw[if_pos oT,if_pos q]
  · rw[if_neg oT,if_neg q]
theorem cmp_scale{a b c:Int}(g:0<c):compare (a*c) (b*c)=compare a b:=by
  show compareOfLessAndEq (a*c) (b*c)=compareOfLessAndEq a b
  unfold compareOfLessAndEq
  have f:a*c<b*c↔a<b:=Int.mul_lt_mul_right g
  have e:a*c=b*c↔a=b:=⟨λh=>Int.eq_of_mul_eq_mul_right oO h,λh=>by rw[h]⟩
  by_cases q:a<b
  · rw[if_pos q,if_pos (f.2 q)]
  · rw[if_neg q,if_neg (λd=>q (f.1 d))]
    by_cases q2:a=b
    · rw[if_pos q2,if_pos (e.2 q2)]
    · rw[if_neg q2,if_neg (λd=>q2 (e.1 d))]
theorem order_fin{x y:Nat}(h:(j0 x).cls<=2)(g:(j0 y).cls<=2):FloatKind.f64.format.order x y=some (compare (fvI x) (fvI y)):=by
  obtain ⟨m,p,o,l,_,k⟩:=ckj h
  obtain ⟨n,q,f,d,_,c⟩:=ckj g
  show (Ieee.double.read x).order (Ieee.double.read y)=_
  rw[o,f]
  unfold Ieee.Datum.order
  dsimp only
  obtain ⟨b,v⟩ : ∃ b:Nat,b=min p q:=⟨_,rfl⟩
  have u:((p:Int)-1074-min ((p:Int)-1074) ((q:Int)-1074)).toNat=p-b:=by omega
  have t:((q:Int)-1074-min ((p:Int)-1074) ((q:Int)-1074)).toNat=q-b:=by omega
  rw[u,t]
  have i:(0:Int)<((2^(b+1074):Nat):Int):=by have:=Nat.two_pow_pos (b+1074);omega
  rw[<- cmp_scale (a:=Ieee.signed _ m _) (b:=Ieee.signed _ n _) i]
  have key : ∀ (s:Bool) (m p:Nat),b<=p->Ieee.signed s m (p-b)*((2^(b+1074):Nat):Int)=if s=true then -((m*2^(p+1074):Nat):Int) else ((m*2^(p+1074):Nat):Int):=by
    intro s m p j
    have e:m*2^(p+1074)=m*2^(p-b)*2^(b+1074):=by
      rw[Nat.mul_assoc,<- Nat.pow_add];congr 2;omega
    rw[signed_val,e]
    cases s
    · simp only[Bool.false_eq_true,if_false];rw[<- Int.natCast_mul]
    · simp only[if_true];rw[Int.neg_mul,<- Int.natCast_mul]
  rw[key _ _ _ oO,key _ _ _ oO]
  unfold fvI
  rw[l,d,k,c]
  have r : ∀ z:Nat,((z/9223372036854775808%2==1)=true)↔(decide (z/9223372036854775808%2=1)=true):=λz=>by simp
  simp only[r]
theorem icmp(a b:Int):compare a b=if a<b then .lt else if a=b then .eq else .gt:=rfl
theorem icmp_gt(a b:Int):compare a b = .gt↔b<a:=by
  rw[icmp]
  by_cases q:a<b
  · rw[if_pos q];constructor
    · intro h;cases h
    · intro h;omega
  · rw[if_neg q]
    by_cases q2:a=b
    · rw[if_pos q2];constructor
      · intro h;cases h
      · intro h;omega
    · rw[if_neg q2];constructor
      · intro h;omega
      · intro h;rfl
theorem fcmp_gt(a b:Int):(some (compare a b)==some Ordering.gt)=decide (b<a):=by
  rw[Bool.eq_iff_iff];simp[icmp_gt]
section
variable {P:Program} {s:Sl} {w:World} {ty:TypeId} {x y:Operand} {t t':TypeId} {a b:Nat}
end
end
section
open Go Sx Wd
set_option exponentiation.threshold 9000
theorem fin_mod{x:Nat}(h:(j0 x).cls<=2):x%9223372036854775808<9218868437227405312:=(coq x).1 h
theorem fin_of{r:Nat}(h:r<9218868437227405312):(j0 r).cls<=2/\(j0 (r+9223372036854775808)).cls<=2:=⟨(coq r).2 oO,(coq _).2 oO⟩
theorem fv_pos{r:Nat}(h:r<9218868437227405312):fvI r=(nz r*2^1074:Nat):=by
  rw[fvI_nz (fin_of h).1 oO,if_neg oO,Nat.mod_eq_of_lt oO]
theorem nz_zero{k:Nat}: nz k=0↔k=0:=by
  constructor
  · intro h
    apply Classical.byContradiction
    intro a
    have:=c5j (show 0<k by omega)
    omega
  · intro h;rw[h];decide
end
end Go.Proofs.YtomlallhlakhfaaGreatDoor