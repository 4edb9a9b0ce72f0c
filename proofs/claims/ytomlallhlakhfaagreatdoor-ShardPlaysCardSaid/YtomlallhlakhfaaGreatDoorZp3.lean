/- Part 3 of what the proof rests on. No condition. -/
import Derived.Test.YtomlallhlakhfaaGreatDoorZp2
import GoSem.Core.Float
set_option linter.unusedVariables false
set_option linter.unusedSimpArgs false
set_option maxRecDepth 100000
set_option maxHeartbeats 4000000
namespace Go.Proofs.YtomlallhlakhfaaGreatDoor
section
open Go Sx Wd
theorem dcq{m k:Nat}(a:m≠0):(m=0\/(k:Int)<=262144-(bl m:Int))↔(wd (m*2^k)).length<=8192:=by
  have h:=bdq (n:=m*2^k) (k:=8192)
  rw[adj a] at h
  omega
theorem xJ{x y:Dy}{p q:Nat}(f:x.m≠0)(d:y.m≠0)(b:p=x.m*2^(x.e-min x.e y.e).toNat)(a:q=y.m*2^(y.e-min x.e y.e).toNat):
    yQ x y=if 8192<(wd p).length\/8192<(wd q).length then none else if x.neg=y.neg then cX x.neg (p+q) (min x.e y.e) else if p<q then cX y.neg (q-p) (min x.e y.e) else cX x.neg (p-q) (min x.e y.e):=by
  subst b;subst a
  unfold yQ
  rw[if_neg f,if_neg d]
theorem bqj(na nb:Bool)(va vb:Value)(la lb:List Nat)(ea eb:Int)(w:World)(ha:NU w va la)(hb:NU w vb lb)(hg:GW w)(o3 : -9223372036854775808<=ea/\ea<=9223372036854775807)(o2 : -9223372036854775808<=eb/\eb<=9223372036854775807):Ret Tryz.prog 98 [.agg [.bool na,va,.int .i64 ea].toArray,.agg [.bool nb,vb,.int .i64 eb].toArray] w λu w'=>DR w' u (bix yQ (cX na (val la) ea) (cX nb (val lb) eb))/\Chg [] w w':=by
 have a:=crf w;have t0:=ha.one;have s9:=hb.one;refine zE2 Tryz.func98 rfl ?_;refine Sr λ_ n4=>?_;refine WL.cgq rfl rfl rfl λb2 r8 a4 d3 l4=>?_;have l3:=Nat.le_trans a.size l4;have a:=a.trans d3;have ha:=ha.q8 d3;have hb:=hb.q8 d3;refine WL.cgq rfl rfl rfl λb3 r7 e0 a7 f4=>?_;have l2:=Nat.le_trans a.size f4;have a:=a.trans a7;have ha:=ha.q8 a7;have hb:=hb.q8 a7;have m3:=zdd a4.lt f4;have a4:=a4.k0 a7;refine WL.iZ (l:=[.bool false,.slice none 0 0,.int .i64 0]) rfl rfl λb4 r6 b V c3=>?_;have l1:=Nat.le_trans a.size c3;have a:=a.trans V;have ha:=ha.q8 V;have hb:=hb.q8 V;have m2:=zdd a4.lt c3;have a4:=a4.k0 V;have m1:=zdd e0.lt c3;have e0:=e0.k0 V;refine za rfl (zz (n4 (Sr λ_ i6=>zg a4 rfl (zg e0 rfl ?_))));refine WL.call hasF135 rfl rfl (duq na nb va vb la lb ea eb _ ha hb (hg.q8 a) o3 o2) λv w1 M=>?_;obtain ⟨hB,l6⟩:=M;have a:=a.trans l6;have b:=b.k0 l6;rcases hB with ⟨n,k,r1,r2,x,t,rfl,j,h⟩|⟨R,n1,v1,e1,n2,v2,e2,rfl,s8,s7⟩
 ·have f3:=jZ x;have f2:=jZ t;have t2:=f3.e;have t1:=f2.e;have l0:=f3.len;have k5:=f2.len;obtain ⟨⟨a1,c1,rfl,g9,n7⟩,o7,l0⟩:=j;have j:NU _ (.slice a1 (wd n.m).length c1) (wd n.m):=NU.adx n7 o7 l0 rfl g9;obtain ⟨⟨a2,c2,rfl,g5,n6⟩,o6,k5⟩:=h;have h:NU _ (.slice a2 (wd k.m).length c2) (wd k.m):=NU.adx n6 o6 k5 rfl g5;have s6:(wd n.m).length=0↔n.m=0:=by rw[List.length_eq_zero_iff,rJ]
  have s5:(wd k.m).length=0↔k.m=0:=by rw[List.length_eq_zero_iff,rJ]
  refine zm rfl (zx rfl rfl (zx rfl rfl (zx rfl rfl ?_)));refine WL.iZ (l:=[.bool false,.slice none 0 0,.int .i64 0]) rfl rfl λb6 m6 g D T=>?_;have b9:=Nat.le_trans a.size T;have a:=a.trans D;have j:=j.q8 D;have h:=h.q8 D;have d9:=zdd b.lt T;have b:=b.k0 D;refine WL.iZ (l:=[.bool false,.slice none 0 0,.int .i64 0]) rfl rfl λb7 m5 i o A=>?_;have b8:=Nat.le_trans a.size A;have a:=a.trans o;have j:=j.q8 o;have h:=h.q8 o;have d8:=zdd b.lt A;have b:=b.k0 o;have d7:=zdd g.lt A;have g:=g.k0 o;refine zss rfl rfl ao g rfl λq6 F C=>?_;(try simp only[qt] at F);have a:=a.s2 C;have b:=b.kq C;have i:=i.kq C;have j:=j.q9 g C an;have h:=h.q9 g C an;have g:=F;refine zss rfl rfl ao i rfl λq5 a8 B=>?_;(try simp only[qt] at a8);have a:=a.s2 B;have b:=b.kq B;have g:=g.kq B;have j:=j.q9 i B an;have h:=h.q9 i B an;have i:=a8;refine za rfl (zz (i6 (zc λ_ n3=>CW.block (Sr λ_ n0=>zm rfl (zN rfl rfl (za rfl (zz (n0 ?_))))))));refine CW.mQ rfl ?_;refine Sr λ_ m9=>zf rfl (zl g rfl rfl (zn rfl (zq rfl rfl (za rfl (zz (m9 ?_))))));refine zy rfl ?_ ?_<;>intro o5<;>try simp only[qs] at o5
  ·have s:n.m=0:=by omega
   refine Sr λ_ k4=>zg i rfl ?_;refine zss rfl rfl ao b rfl λq4 f d0=>?_;(try simp only[qt] at f);have a:=a.s2 d0;have h:=h.q9 b d0 an;have b:=f;refine za rfl (zz (k4 ?_));refine zr (k9.iX rfl (aZ.cell rfl (b.fJ rfl rfl)) (aZ.tmp rfl) ?_);rw[x,t];exact ⟨.inl ⟨_,k,by show yQ n k=_;unfold yQ;rw[if_pos s],rfl,h⟩,a⟩
  have s:n.m≠0:=by omega
  refine Sr λ_ k3=>zf rfl (zl i rfl rfl (zn rfl (zq rfl rfl (za rfl (zz (k3 ?_))))));refine zy rfl ?_ ?_<;>intro o4<;>try simp only[qs] at o4
  ·have z:k.m=0:=by omega
   refine Sr λ_ k2=>zg g rfl ?_;refine zss rfl rfl ao b rfl λq3 f c9=>?_;(try simp only[qt] at f);have a:=a.s2 c9;have j:=j.q9 b c9 an;have b:=f;refine za rfl (zz (k2 ?_));refine zr (k9.iX rfl (aZ.cell rfl (b.fJ rfl rfl)) (aZ.tmp rfl) ?_);rw[x,t];exact ⟨.inl ⟨_,n,by show yQ n k=_;unfold yQ;rw[if_neg s,if_pos z],rfl,j⟩,a⟩
  have z:k.m≠0:=by omega
  refine zkk (n3 (Sr λ_ k1=>zf rfl (zl g rfl rfl (zf rfl (zl i rfl rfl ?_)))));refine WL.ev (Ev.minI rfl rfl) rfl ?_;refine za rfl (zz (k1 (Sr λ_ f1=>zf rfl (zl g rfl rfl (zf rfl (zl g rfl rfl (zm rfl ?_)))))));refine WL.ev (Ev.dX rfl rfl oO) rfl ?_;refine WL.call hasF167 rfl rfl (arq _ _ _ _ j oO) λv w2 M=>?_;obtain ⟨e3,d6⟩:=M;rw[g7,show n.e-min n.e k.e=((n.e-min n.e k.e).toNat:Int) by omega,aqq] at e3;obtain ⟨p,hp⟩ : ∃ p,p=n.m*2^(n.e-min n.e k.e).toNat:=⟨_,rfl⟩;rw[<- hp] at e3;have a:=a.trans d6;have b:=b.k0 d6;have g:=g.k0 d6;have i:=i.k0 d6;have h:=h.q8 d6;rw[dcq s,<- hp] at e3;rcases e3 with ⟨⟨_,n9⟩,rp,rfl,y⟩|⟨n9,rfl⟩
  ·refine zm rfl (zx rfl rfl (zx rfl rfl (za rfl (za rfl (zz (f1 (Sr λ_ f0=>zf rfl (zl i rfl rfl (zf rfl (zl i rfl rfl (zm rfl ?_)))))))))));refine WL.ev (Ev.dX rfl rfl oO) rfl ?_;refine WL.call hasF167 rfl rfl (arq _ _ _ _ h oO) λv w3 M=>?_;obtain ⟨Y,Z⟩:=M;rw[g7,show k.e-min n.e k.e=((k.e-min n.e k.e).toNat:Int) by omega,aqq] at Y;obtain ⟨q,hq⟩ : ∃ q,q=k.m*2^(k.e-min n.e k.e).toNat:=⟨_,rfl⟩;rw[<- hq] at Y;have a:=a.trans Z;have b:=b.k0 Z;have g:=g.k0 Z;have i:=i.k0 Z;have y:=y.q8 Z;rw[dcq z,<- hq] at Y;rcases Y with ⟨⟨_,n8⟩,rq,rfl,H⟩|⟨n8,rfl⟩
   ·refine zm rfl (zx rfl rfl (zx rfl rfl (za rfl (za rfl (zz (f0 (zc λ_ e9=>CW.block (Sr λ_ i9=>zm rfl (zN rfl rfl (zm rfl (zw rfl (zm rfl (zw rfl (zN rfl rfl (ze rfl rfl (za rfl (zz (i9 ?_))))))))))))))))));refine CW.mQ rfl ?_;refine Sr λ_ i8=>zf rfl (zl g rfl rfl (zf rfl (zl i rfl rfl ?_)));refine WL.ev (Ev.bdx rfl rfl) rfl ?_;refine za rfl (zz (i8 ?_));refine zy rfl ?_ ?_<;>intro h0<;>try simp only[qs] at h0
    ·have a0:n.neg=k.neg:=by simpa using h0
     refine zc λ_ e8=>?_;refine CW.gJ 9 11 rfl dZ λr5 e4 hS c4=>?_;have a:=a.trans c4;have b:=b.k0 c4;have g:=g.k0 c4;have y:=y.q8 c4;have H:=H.q8 c4;have h1:=g;refine wk 0 rfl hS (eF rfl) (wk 1 rfl hS (λ_ n5=>Ev.load rfl rfl ((h1.q8 n5).at_ rfl)) (wk 2 rfl hS (eM rfl) (wk 3 rfl hS (eM rfl) (wk 5 rfl hS (eM rfl) ?_))));refine WK.k7 4 rfl oR hasF168 rfl rfl (dsum_spec _ _ _ _ _ y H oO oO) λv w4 M=>?_;obtain ⟨L,o8,f7,d5⟩:=M;rw[g7,g7] at f7;have a:=a.trans d5;have b:=b.k0 d5;have hS:=hS.trans d5;refine ⟨hS,?_⟩;refine WK.k7 6 rfl oR hasF133 rfl rfl (abx _ _ _ _ _ o8 (hg.q8 a) oO) λv w5 M=>?_;obtain ⟨l5,d4⟩:=M;have a:=a.trans d4;have b:=b.k0 d4;have hS:=hS.trans d4;refine ⟨hS,?_⟩;rcases l5 with ⟨r,d,U,rfl,G⟩|⟨U,rfl⟩
     ·refine wk 7 rfl hS (eX rfl rfl) (wk 8 rfl hS (eX rfl rfl) ?_);refine WK.nZ 9 rfl oR oR rfl rfl rfl ao b oS rfl λq2 f c8=>?_;(try simp only[qt] at f);have a:=a.s2 c8;have G:=G.q9 b c8 an;have b:=f;refine WK.after 10 rfl oR oR (Ev.assign rfl) rfl ?_;refine WK.done oR (e4 _ _ _ ?_);refine e8 ?_;refine zr (k9.iX rfl (aZ.cell rfl (b.fJ rfl rfl)) (aZ.tmp rfl) ?_);rw[x,t];exact ⟨.inl ⟨r,d,by rw[f7] at U;show yQ n k=_;rw[xJ s z hp hq,if_neg oO,if_pos a0];exact U,rfl,G⟩,a⟩
     refine wk 7 rfl hS (eX rfl rfl) (wk 8 rfl hS (eX rfl rfl) ?_);refine WK.nZ 9 rfl oR oR rfl rfl rfl ao b oS rfl λq1 f g4=>?_;(try simp only[qt] at f);have a:=a.s2 g4;have b:=f;refine WK.after 10 rfl oR oR (Ev.assign rfl) rfl ?_;refine WK.done oR (e4 _ _ _ ?_);refine e8 ?_;refine zr (k9.iX rfl (aZ.cell rfl (b.fJ rfl rfl)) (aZ.tmp rfl) ?_);rw[x,t];exact ⟨.inr ⟨by rw[f7] at U;show yQ n k=_;rw[xJ s z hp hq,if_neg oO,if_pos a0];exact U,rfl⟩,a⟩
    have a0:n.neg≠k.neg:=by simpa using h0
    refine Sr λ_ i7=>zm rfl (zm rfl ?_);refine WL.call hasF169 rfl rfl (dyq _ _ _ _ _ y H) λv w6 M=>?_;obtain ⟨rfl,O⟩:=M;rw[g7,g7];have a:=a.trans O;have b:=b.k0 O;have g:=g.k0 O;have i:=i.k0 O;have y:=y.q8 O;have H:=H.q8 O;refine zL rfl rfl (za rfl (zz (i7 ?_)));refine zy rfl ?_ ?_<;>intro b0<;>try simp only[qs] at b0
    ·have b1:p<q:=by
      apply Classical.byContradiction;intro hn;unfold sgn at b0;rw[if_neg hn] at b0;split at b0<;>omega
     refine zR λ_ h5=>?_;refine zg i rfl (zm rfl (zm rfl ?_));refine zss rfl rfl ao g rfl λq0 F Q=>?_;(try simp only[qt] at F);have a:=a.s2 Q;have b:=b.kq Q;have y:=y.q9 g Q an;have H:=H.q9 g Q an;have g:=F;refine za rfl (za rfl ?_);refine WL.nil (h5 _ _ _ (e9 ?_));refine Sr λ_ i5=>zm rfl (zm rfl ?_);refine WL.call hasF170 rfl rfl (Sub_spec _ _ _ _ _ H y) λv w7 M=>?_;obtain ⟨X,I⟩:=M;rw[g7,g7] at X;rcases X with ⟨_,_,_,rs,rfl,h2⟩|⟨R,_⟩|⟨_,R,_⟩
     rotate_left
     · omega
     · omega
     have a:=a.trans I;have b:=b.k0 I;have g:=g.k0 I;refine zm rfl (zx rfl rfl (zx rfl rfl (za rfl (za rfl (zz (i5 (Sr λ_ e7=>zf rfl (zl g rfl rfl (zm rfl (zm rfl ?_))))))))));refine WL.call hasF133 rfl rfl (abx _ _ _ _ _ h2 (hg.q8 a) oO) λv w8 M=>?_;obtain ⟨a6,J⟩:=M;have a:=a.trans J;have b:=b.k0 J;rcases a6 with ⟨r,d,U,rfl,G⟩|⟨U,rfl⟩
     ·refine zx rfl rfl (zx rfl rfl ?_);refine zss rfl rfl ao b rfl λp9 f c7=>?_;(try simp only[qt] at f);have a:=a.s2 c7;have G:=G.q9 b c7 an;have b:=f;refine za rfl (zz (e7 ?_));refine zr (k9.iX rfl (aZ.cell rfl (b.fJ rfl rfl)) (aZ.tmp rfl) ?_);rw[x,t];exact ⟨.inl ⟨r,d,by rw[g7] at U;show yQ n k=_;rw[xJ s z hp hq,if_neg oO,if_neg a0,if_pos b1];exact U,rfl,G⟩,a⟩
     refine zx rfl rfl (zx rfl rfl ?_);refine zss rfl rfl ao b rfl λp8 f g3=>?_;(try simp only[qt] at f);have a:=a.s2 g3;have b:=f;refine za rfl (zz (e7 ?_));refine zr (k9.iX rfl (aZ.cell rfl (b.fJ rfl rfl)) (aZ.tmp rfl) ?_);rw[x,t];exact ⟨.inr ⟨by rw[g7] at U;show yQ n k=_;rw[xJ s z hp hq,if_neg oO,if_neg a0,if_pos b1];exact U,rfl⟩,a⟩
    have b1 : ¬p<q:=λhn=>by unfold sgn at b0;rw[if_pos hn] at b0;omega
    refine zkk (e9 (Sr λ_ i4=>zm rfl (zm rfl ?_)));refine WL.call hasF170 rfl rfl (Sub_spec _ _ _ _ _ y H) λv w9 M=>?_;obtain ⟨X,I⟩:=M;rw[g7,g7] at X;rcases X with ⟨_,_,_,rs,rfl,h2⟩|⟨R,_⟩|⟨_,R,_⟩
    rotate_left
    · omega
    · omega
    have a:=a.trans I;have b:=b.k0 I;have g:=g.k0 I;refine zm rfl (zx rfl rfl (zx rfl rfl (za rfl (za rfl (zz (i4 (Sr λ_ e6=>zf rfl (zl g rfl rfl (zm rfl (zm rfl ?_))))))))));refine WL.call hasF133 rfl rfl (abx _ _ _ _ _ h2 (hg.q8 a) oO) λv s0 M=>?_;obtain ⟨a6,J⟩:=M;have a:=a.trans J;have b:=b.k0 J;rcases a6 with ⟨r,d,U,rfl,G⟩|⟨U,rfl⟩
    ·refine zx rfl rfl (zx rfl rfl ?_);refine zss rfl rfl ao b rfl λp7 f c6=>?_;(try simp only[qt] at f);have a:=a.s2 c6;have G:=G.q9 b c6 an;have b:=f;refine za rfl (zz (e6 ?_));refine zr (k9.iX rfl (aZ.cell rfl (b.fJ rfl rfl)) (aZ.tmp rfl) ?_);rw[x,t];exact ⟨.inl ⟨r,d,by rw[g7] at U;show yQ n k=_;rw[xJ s z hp hq,if_neg oO,if_neg a0,if_neg b1];exact U,rfl,G⟩,a⟩
    refine zx rfl rfl (zx rfl rfl ?_);refine zss rfl rfl ao b rfl λp6 f g2=>?_;(try simp only[qt] at f);have a:=a.s2 g2;have b:=f;refine za rfl (zz (e6 ?_));refine zr (k9.iX rfl (aZ.cell rfl (b.fJ rfl rfl)) (aZ.tmp rfl) ?_);rw[x,t];exact ⟨.inr ⟨by rw[g7] at U;show yQ n k=_;rw[xJ s z hp hq,if_neg oO,if_neg a0,if_neg b1];exact U,rfl⟩,a⟩
   refine zm rfl (zx rfl rfl (zx rfl rfl (za rfl (za rfl (zz (f0 (zc λ_ r4=>CW.block (Sr λ_ i3=>zm rfl (zN rfl rfl (zm rfl (zw rfl (zm rfl (zw rfl (zN rfl rfl (ze rfl rfl (za rfl (zz (i3 ?_))))))))))))))))));refine CW.nJ rfl ?_;refine Sr λ_ i2=>?_;refine WL.ev (Ev.build (vs:=_) (cs:=[_,_,_]) rfl rfl) rfl ?_;refine zss rfl rfl ao b rfl λp5 f g1=>?_;(try simp only[qt] at f);have a:=a.s2 g1;have b:=f;refine za rfl (zz (i2 ?_));refine zr (k9.iX rfl (aZ.cell rfl (b.fJ rfl rfl)) (aZ.tmp rfl) ?_);rw[x,t];exact ⟨.inr ⟨by show yQ n k=_;rw[xJ s z hp hq,if_pos oO],rfl⟩,a⟩
  refine zm rfl (zx rfl rfl (zx rfl rfl (za rfl (za rfl (zz (f1 (Sr λ_ e5=>zf rfl (zl i rfl rfl (zf rfl (zl i rfl rfl (zm rfl ?_)))))))))));refine WL.ev (Ev.dX rfl rfl oO) rfl ?_;refine WL.call hasF167 rfl rfl (arq _ _ _ _ h oO) λv r9 M=>?_;obtain ⟨Y,Z⟩:=M;rw[g7,show k.e-min n.e k.e=((k.e-min n.e k.e).toNat:Int) by omega,aqq] at Y;obtain ⟨q,hq⟩ : ∃ q,q=k.m*2^(k.e-min n.e k.e).toNat:=⟨_,rfl⟩;rw[<- hq] at Y;have a:=a.trans Z;have b:=b.k0 Z;rcases Y with ⟨_,rq,rfl,H⟩|⟨_,rfl⟩
  ·refine zm rfl (zx rfl rfl (zx rfl rfl (za rfl (za rfl (zz (e5 (zc λ_ r3=>CW.block (Sr λ_ i1=>zm rfl (zN rfl rfl (zm rfl (zv rfl (zv rfl (zt rfl rfl (za rfl (zz (i1 ?_))))))))))))))));refine CW.nJ rfl ?_;refine Sr λ_ i0=>?_;refine WL.ev (Ev.build (vs:=_) (cs:=[_,_,_]) rfl rfl) rfl ?_;refine zss rfl rfl ao b rfl λp4 f g0=>?_;(try simp only[qt] at f);have a:=a.s2 g0;have b:=f;refine za rfl (zz (i0 ?_));refine zr (k9.iX rfl (aZ.cell rfl (b.fJ rfl rfl)) (aZ.tmp rfl) ?_);rw[x,t];exact ⟨.inr ⟨by show yQ n k=_;rw[xJ s z hp hq,if_pos oO],rfl⟩,a⟩
  refine zm rfl (zx rfl rfl (zx rfl rfl (za rfl (za rfl (zz (e5 (zc λ_ r0=>CW.block (Sr λ_ h9=>zm rfl (zN rfl rfl (zm rfl (zv rfl (zv rfl (zt rfl rfl (za rfl (zz (h9 ?_))))))))))))))));refine CW.nJ rfl ?_;refine Sr λ_ h8=>?_;refine WL.ev (Ev.build (vs:=_) (cs:=[_,_,_]) rfl rfl) rfl ?_;refine zss rfl rfl ao b rfl λp3 f f9=>?_;(try simp only[qt] at f);have a:=a.s2 f9;have b:=f;refine za rfl (zz (h8 ?_));refine zr (k9.iX rfl (aZ.cell rfl (b.fJ rfl rfl)) (aZ.tmp rfl) ?_);rw[x,t];exact ⟨.inr ⟨by show yQ n k=_;rw[xJ s z hp hq,if_pos oO],rfl⟩,a⟩
 have hF:bix yQ (cX na (val la) ea) (cX nb (val lb) eb)=none:=by rcases R with R|R<;>rw[R]<;>first|rfl|exact amx
 refine zm rfl (zx rfl rfl (zx rfl rfl (zx rfl rfl ?_)));refine WL.iZ (l:=[.bool false,.slice none 0 0,.int .i64 0]) rfl rfl λb6 m6 g D T=>?_;have b9:=Nat.le_trans a.size T;have a:=a.trans D;have d9:=zdd b.lt T;have b:=b.k0 D;refine WL.iZ (l:=[.bool false,.slice none 0 0,.int .i64 0]) rfl rfl λb7 m5 i o A=>?_;have b8:=Nat.le_trans a.size A;have a:=a.trans o;have d8:=zdd b.lt A;have b:=b.k0 o;have d7:=zdd g.lt A;have g:=g.k0 o;refine zss rfl rfl ao g rfl λp2 F a3=>?_;(try simp only[qt] at F);have a:=a.s2 a3;have b:=b.kq a3;have i:=i.kq a3;refine zss rfl rfl ao i rfl λp1 a8 c5=>?_;(try simp only[qt] at a8);have a:=a.s2 c5;have b:=b.kq c5;refine za rfl (zz (i6 (zc λ_ q7=>CW.block (Sr λ_ h7=>zm rfl (zN rfl rfl (za rfl (zz (h7 ?_))))))));refine CW.nJ rfl ?_;refine Sr λ_ h6=>?_;refine WL.ev (Ev.build (vs:=_) (cs:=[_,_,_]) rfl rfl) rfl ?_;refine zm rfl ?_;refine zss rfl rfl ao b rfl λo9 f f8=>?_;(try simp only[qt] at f);have a:=a.s2 f8;have b:=f;refine za rfl (zz (h6 ?_));refine zr (k9.iX rfl (aZ.cell rfl (b.fJ rfl rfl)) (aZ.tmp rfl) ?_);rw[hF];exact ⟨.inr ⟨rfl,rfl⟩,a⟩
theorem cyx(na nb:Bool)(va Z:Value)(la lb:List Nat)(M J:Int)(w:World)(p:NU w va la)(o:NU w Z lb)(hg:GW w)(T : -9223372036854775808<=M/\M<=9223372036854775807)(R : -9223372036854775808<=J/\J<=9223372036854775807):Ret Tryz.prog 145 [.agg [.bool na,va,.int .i64 M].toArray,.agg [.bool nb,Z,.int .i64 J].toArray] w λu w'=>DR w' u (bix yQ (cX na (val la) M) (cX (!nb) (val lb) J))/\Chg [] w w':=by
 have a:=crf w;have a9:=p.one;have a8:=o.one;refine zE2 Tryz.func145 rfl ?_;refine Sr λ_ Q=>?_;refine WL.cgq rfl rfl rfl λb2 a7 g n D=>?_;have C:=Nat.le_trans a.size D;have a:=a.trans n;have p:=p.q8 n;have o:=o.q8 n;refine WL.cgq rfl rfl rfl λb3 a6 f j q=>?_;have B:=Nat.le_trans a.size q;have a:=a.trans j;have p:=p.q8 j;have o:=o.q8 j;have I:=zdd g.lt q;have g:=g.k0 j;refine WL.iZ (l:=[.bool false,.slice none 0 0,.int .i64 0]) rfl rfl λb4 a5 e h k=>?_;have A:=Nat.le_trans a.size k;have a:=a.trans h;have p:=p.q8 h;have o:=o.q8 h;have H:=zdd g.lt k;have g:=g.k0 h;have G:=zdd f.lt k;have f:=f.k0 h;refine za rfl (zz (Q (Sr λ_ O=>zf rfl (zl f rfl rfl (zT rfl (zf rfl ?_))))));refine WL.bJ rfl rfl o1 f oS rfl λY s b=>?_;(try simp only[qt] at s);have a:=a.s2 b;have g:=g.kq b;have e:=e.kq b;have p:=p.q9 f b an;have o:=o.q9 f b an;have f:=s;refine zz (O (Sr λ_ z=>zg g rfl (zg f rfl ?_)));refine WL.call hasF98 rfl rfl (bqj _ _ _ _ _ _ _ _ _ p o (hg.q8 a) T R) λv w1 h'=>?_;obtain ⟨F,t⟩:=h';have a:=a.trans t;have e:=e.k0 t;rcases F with ⟨r,d,U,rfl,y⟩|⟨U,rfl⟩
 ·refine zx rfl rfl (zx rfl rfl ?_);refine zss rfl rfl ao e rfl λX i m=>?_;(try simp only[qt] at i);have a:=a.s2 m;have y:=y.q9 e m an;have e:=i;refine za rfl (zz (z ?_));refine zr (k9.iX rfl (aZ.cell rfl (e.fJ rfl rfl)) (aZ.tmp rfl) ?_);exact ⟨.inl ⟨r,d,U,rfl,y⟩,a⟩
 refine zx rfl rfl (zx rfl rfl ?_);refine zss rfl rfl ao e rfl λV i x=>?_;(try simp only[qt] at i);have a:=a.s2 x;have e:=i;refine za rfl (zz (z ?_));refine zr (k9.iX rfl (aZ.cell rfl (e.fJ rfl rfl)) (aZ.tmp rfl) ?_);exact ⟨.inr ⟨U,rfl⟩,a⟩
theorem uX(na nb:Bool)(va vb:Value)(la lb:List Nat)(ea eb:Int)(w:World)(ha:NU w va la)(hb:NU w vb lb)(hg:GW w)(g5 : -9223372036854775808<=ea/\ea<=9223372036854775807)(g4 : -9223372036854775808<=eb/\eb<=9223372036854775807):Ret Tryz.prog 71 [.agg [.bool na,va,.int .i64 ea].toArray,.agg [.bool nb,vb,.int .i64 eb].toArray] w λu w'=>DR w' u (bix gX (cX na (val la) ea) (cX nb (val lb) eb))/\Chg [] w w':=by
 have a:=crf w;have k2:=ha.one;have k1:=hb.one;refine zE2 Tryz.func71 rfl ?_;refine Sr λ_ g0=>?_;refine WL.cgq rfl rfl rfl λb2 i5 y I d9=>?_;have d8:=Nat.le_trans a.size d9;have a:=a.trans I;have ha:=ha.q8 I;have hb:=hb.q8 I;refine WL.cgq rfl rfl rfl λb3 i4 U z a0=>?_;have d7:=Nat.le_trans a.size a0;have a:=a.trans z;have ha:=ha.q8 z;have hb:=hb.q8 z;have f3:=zdd y.lt a0;have y:=y.k0 z;refine WL.iZ (l:=[.bool false,.slice none 0 0,.int .i64 0]) rfl rfl λb4 i3 b t F=>?_;have d6:=Nat.le_trans a.size F;have a:=a.trans t;have ha:=ha.q8 t;have hb:=hb.q8 t;have f2:=zdd y.lt F;have y:=y.k0 t;have f1:=zdd U.lt F;have U:=U.k0 t;refine za rfl (zz (g0 (Sr λ_ c5=>zg y rfl (zg U rfl ?_))));refine WL.call hasF135 rfl rfl (duq na nb va vb la lb ea eb _ ha hb (hg.q8 a) g5 g4) λv w1 h'=>?_;obtain ⟨hB,e5⟩:=h';have a:=a.trans e5;have b:=b.k0 e5;rcases hB with ⟨d1,d2,r1,r2,T,R,rfl,i,h⟩|⟨J,n1,v1,e1,n2,v2,e2,rfl,i9,i8⟩
 ·have Z:=jZ T;have Y:=jZ R;have k4:=Z.e;have k3:=Y.e;have d5:=Z.len;have d4:=Y.len;obtain ⟨⟨a1,c1,rfl,b0,g2⟩,h0,d5⟩:=i;have i:NU _ (.slice a1 (wd d1.m).length c1) (wd d1.m):=NU.adx g2 h0 d5 rfl b0;obtain ⟨⟨a2,c2,rfl,a9,g1⟩,g9,d4⟩:=h;have h:NU _ (.slice a2 (wd d2.m).length c2) (wd d2.m):=NU.adx g1 g9 d4 rfl a9;have i7:(wd d1.m).length=0↔d1.m=0:=by rw[List.length_eq_zero_iff,rJ]
  have i6:(wd d2.m).length=0↔d2.m=0:=by rw[List.length_eq_zero_iff,rJ]
  refine zm rfl (zx rfl rfl (zx rfl rfl (zx rfl rfl ?_)));refine WL.iZ (l:=[.bool false,.slice none 0 0,.int .i64 0]) rfl rfl λb6 f5 f q s=>?_;have D:=Nat.le_trans a.size s;have a:=a.trans q;have i:=i.q8 q;have h:=h.q8 q;have Q:=zdd b.lt s;have b:=b.k0 q;refine WL.iZ (l:=[.bool false,.slice none 0 0,.int .i64 0]) rfl rfl λb7 f4 j k n=>?_;have C:=Nat.le_trans a.size n;have a:=a.trans k;have i:=i.q8 k;have h:=h.q8 k;have O:=zdd b.lt n;have b:=b.k0 k;have M:=zdd f.lt n;have f:=f.k0 k;refine zss rfl rfl ao f rfl λh9 B p=>?_;(try simp only[qt] at B);have a:=a.s2 p;have b:=b.kq p;have j:=j.kq p;have i:=i.q9 f p an;have h:=h.q9 f p an;have f:=B;refine zss rfl rfl ao j rfl λh8 A o=>?_;(try simp only[qt] at A);have a:=a.s2 o;have b:=b.kq o;have f:=f.kq o;have i:=i.q9 j o an;have h:=h.q9 j o an;have j:=A;refine za rfl (zz (c5 (zc λ_ f9=>Sr λ_ f8=>zm rfl (zN rfl rfl (zz (f8 ?_))))));refine CW.mQ rfl ?_;refine zkk (f9 (Sr λ_ c4=>zf rfl (zl f rfl rfl (zf rfl (zl j rfl rfl ?_)))));refine WL.call hasF136 rfl rfl (Mul_spec _ _ _ _ _ i h) λv w2 h'=>?_;obtain ⟨e4,V⟩:=h';rw[g7,g7] at e4;have a:=a.trans V;have b:=b.k0 V;have f:=f.k0 V;have j:=j.k0 V;rcases e4 with ⟨_,_,g3,rp,rfl,h1⟩|⟨g3,rfl⟩
  ·refine zm rfl (zx rfl rfl (zx rfl rfl (za rfl (za rfl (zz (c4 (zc λ_ d3=>Sr λ_ d0=>zm rfl (zN rfl rfl (zz (d0 ?_))))))))));refine CW.mQ rfl ?_;refine zkk (d3 (Sr λ_ X=>zf rfl (zl f rfl rfl (zf rfl (zl j rfl rfl ?_)))));refine WL.ev (Ev.dnj rfl rfl) rfl ?_;refine zm rfl (zf rfl (zl f rfl rfl (zf rfl (zl j rfl rfl ?_))));(first|refine zi rfl rfl ?_|refine zo rfl rfl ?_);refine WL.call hasF133 rfl rfl (abx _ _ _ _ _ h1 (hg.q8 a) oO) λv w3 h'=>?_;obtain ⟨e3,a5⟩:=h';have a:=a.trans a5;have b:=b.k0 a5;rcases e3 with ⟨r,d,hd,rfl,b1⟩|⟨hd,rfl⟩
   ·refine zx rfl rfl (zx rfl rfl ?_);refine zss rfl rfl ao b rfl λh7 g H=>?_;(try simp only[qt] at g);have a:=a.s2 H;have b1:=b1.q9 b H an;have b:=g;refine za rfl (zz (X ?_));refine zr (k9.iX rfl (aZ.cell rfl (b.fJ rfl rfl)) (aZ.tmp rfl) ?_);rw[T,R];exact ⟨.inl ⟨r,d,by rw[g7] at hd;show gX d1 d2=_;unfold gX;rw[if_neg oO];exact hd,rfl,b1⟩,a⟩
   refine zx rfl rfl (zx rfl rfl ?_);refine zss rfl rfl ao b rfl λh6 g a8=>?_;(try simp only[qt] at g);have a:=a.s2 a8;have b:=g;refine za rfl (zz (X ?_));refine zr (k9.iX rfl (aZ.cell rfl (b.fJ rfl rfl)) (aZ.tmp rfl) ?_);rw[T,R];exact ⟨.inr ⟨by rw[g7] at hd;show gX d1 d2=_;unfold gX;rw[if_neg oO];exact hd,rfl⟩,a⟩
  refine zm rfl (zx rfl rfl (zx rfl rfl (za rfl (za rfl (zz (c4 (zc λ_ i1=>Sr λ_ c9=>zm rfl (zN rfl rfl (zz (c9 ?_))))))))));refine CW.nJ rfl ?_;refine Sr λ_ c8=>?_;refine WL.ev (Ev.build (vs:=_) (cs:=[_,_,_]) rfl rfl) rfl ?_;refine zm rfl ?_;refine zss rfl rfl ao b rfl λh5 g a7=>?_;(try simp only[qt] at g);have a:=a.s2 a7;have b:=g;refine za rfl (zz (c8 ?_));refine zr (k9.iX rfl (aZ.cell rfl (b.fJ rfl rfl)) (aZ.tmp rfl) ?_);rw[T,R];exact ⟨.inr ⟨by show gX d1 d2=_;unfold gX;rw[if_pos oO],rfl⟩,a⟩
 have hF:bix gX (cX na (val la) ea) (cX nb (val lb) eb)=none:=by rcases J with J|J<;>rw[J]<;>first|rfl|exact amx
 refine zm rfl (zx rfl rfl (zx rfl rfl (zx rfl rfl ?_)));refine WL.iZ (l:=[.bool false,.slice none 0 0,.int .i64 0]) rfl rfl λb6 f5 f q s=>?_;have D:=Nat.le_trans a.size s;have a:=a.trans q;have Q:=zdd b.lt s;have b:=b.k0 q;refine WL.iZ (l:=[.bool false,.slice none 0 0,.int .i64 0]) rfl rfl λb7 f4 j k n=>?_;have C:=Nat.le_trans a.size n;have a:=a.trans k;have O:=zdd b.lt n;have b:=b.k0 k;have M:=zdd f.lt n;have f:=f.k0 k;refine zss rfl rfl ao f rfl λh4 B x=>?_;(try simp only[qt] at B);have a:=a.s2 x;have b:=b.kq x;have j:=j.kq x;refine zss rfl rfl ao j rfl λh3 A G=>?_;(try simp only[qt] at A);have a:=a.s2 G;have b:=b.kq G;refine za rfl (zz (c5 (zc λ_ i0=>Sr λ_ c7=>zm rfl (zN rfl rfl (zz (c7 ?_))))));refine CW.nJ rfl ?_;refine Sr λ_ c6=>?_;refine WL.ev (Ev.build (vs:=_) (cs:=[_,_,_]) rfl rfl) rfl ?_;refine zm rfl ?_;refine zss rfl rfl ao b rfl λh2 g a6=>?_;(try simp only[qt] at g);have a:=a.s2 a6;have b:=g;refine za rfl (zz (c6 ?_));refine zr (k9.iX rfl (aZ.cell rfl (b.fJ rfl rfl)) (aZ.tmp rfl) ?_);rw[hF];exact ⟨.inr ⟨rfl,rfl⟩,a⟩
def sgD(neg:Bool)(n:Nat):Int:=if n=0 then 0 else if neg then -1 else 1
theorem akq(t:Bool)(s:Value)(k:List Nat)(B:Int)(w:World)(j:NU w s k):Ret Tryz.prog 74 [.agg [.bool t,s,.int .i64 B].toArray] w λu w'=>u = .int .i64 (sgD t (val k))/\Chg [] w w':=by
 have a:=crf w;have y:=j.one;have z:=aex (n:=val k);refine zE1 Tryz.func74 rfl ?_;refine Sr λ_ q=>?_;refine WL.cgq rfl rfl rfl λD x i b h=>?_;have g:=Nat.le_trans a.size h;have a:=a.trans b;have j:=j.q8 b;refine za rfl (zz (q (zc λ_ p=>CW.block (Sr λ_ o=>zf rfl (zl i rfl rfl ?_)))));refine WL.call hasF139 rfl rfl (a4j _ _ _ j) λv C A=>?_;obtain ⟨rfl,rfl⟩:=A;refine zq rfl rfl (za rfl (zz (o ?_)));refine zy rfl ?_ ?_<;>intro r<;>try simp only[qs] at r
 ·refine Sr λ_ m=>za rfl (zz (m ?_));refine zr (zr1 rfl rfl ?_);unfold sgD;rw[if_pos oO];exact ⟨rfl,a⟩
 refine Sr λ_ l=>zf rfl (zl i rfl rfl (za rfl (zz (l ?_))));refine zy rfl ?_ ?_<;>intro d<;>try simp only[qs] at d
 ·refine Sr λ_ f=>za rfl (zz (f ?_));refine zr (zr1 rfl rfl ?_);unfold sgD;rw[if_neg oO,if_pos d];exact ⟨rfl,a⟩
 refine zkk (p (Sr λ_ e=>za rfl (zz (e ?_))));refine zr (zr1 rfl rfl ?_);unfold sgD;rw[if_neg oO,if_neg (by rw[d];decide)];exact ⟨rfl,a⟩
def ccj(mode:Int)(neg:Bool)(n:Nat)(half only:Bool):Bool:=if mode=0 then (half&&(!only||decide (n%2=1))) else if mode=4 then half else if mode=2 then !neg else if mode=3 then neg else false
theorem away_spec(mode:Int)(neg:Bool)(n:Nat)(half only:Bool)(w:World)(y:n<18446744073709551616):Ret Tryz.prog 216 [.int .i64 mode,.bool neg,.int .u64 (n:Int),.bool half,.bool only] w λu w'=>u = .bool (ccj mode neg n half only)/\w=w':=by
 refine zE5 Tryz.func216 rfl ?_;refine Sr λ_ r=>za rfl (zz (r (zc λ_ q=>Sr λ_ p=>zm rfl (zz (p (CW.block (Sr λ_ o=>zq rfl rfl (za rfl (zz (o ?_))))))))));refine zy rfl ?_ ?_<;>intro x<;>try simp only[qs] at x
 ·refine Sr λ_ d=>zm rfl (zm rfl ?_);refine zb ?_ ?_<;>intro a<;>try simp only[qs] at a
  ·refine zw rfl (zm rfl (zw rfl (zT rfl (zw rfl (zm rfl ?_)))));refine zb ?_ ?_<;>intro e<;>try simp only[qs] at e
   ·refine zv rfl (zv rfl (zv rfl (zw rfl (zt rfl rfl (zt rfl rfl (za rfl (zz (d ?_))))))));refine zr (zr1 rfl rfl ?_);have m:mode=0:=by omega
    refine ⟨?_,rfl⟩;unfold ccj;rw[if_pos m,a,e];rfl
   refine zw rfl (zm rfl (zw rfl ?_));refine WL.ev (Ev.andU (b:=1) rfl rfl rfl (by simp only[IntKind.bits];omega) (by simp only[IntKind.bits];omega)) rfl ?_;rw[Nat.and_one_is_mod];refine zw rfl (zq rfl rfl (zw rfl (ze rfl rfl (zt rfl rfl (za rfl (zz (d ?_)))))));refine zr (zr1 rfl rfl ?_);have m:mode=0:=by omega
   refine ⟨?_,rfl⟩;unfold ccj;rw[if_pos m,a,e]
   congr 1
   simp only[Bool.true_and,Bool.not_true,Bool.false_or];refine decide_eq_decide.2 ?_;omega
  refine zv rfl (zv rfl (zv rfl (zu rfl (zu rfl (zu rfl (zv rfl (ze rfl rfl (za rfl (zz (d ?_))))))))));refine zr (zr1 rfl rfl ?_);have m:mode=0:=by omega
  refine ⟨?_,rfl⟩;unfold ccj;rw[if_pos m,a];rfl
 refine Sr λ_ l=>zq rfl rfl (za rfl (zz (l ?_)));refine zy rfl ?_ ?_<;>intro v<;>try simp only[qs] at v
 ·refine Sr λ_ k=>zm rfl (za rfl (zz (k ?_)));refine zr (zr1 rfl rfl ?_);refine ⟨?_,rfl⟩;unfold ccj;rw[if_neg oO,if_pos oO]
 refine Sr λ_ j=>zq rfl rfl (za rfl (zz (j ?_)));refine zy rfl ?_ ?_<;>intro t<;>try simp only[qs] at t
 ·refine Sr λ_ i=>zm rfl (zT rfl (za rfl (zz (i ?_))));refine zr (zr1 rfl rfl ?_);refine ⟨?_,rfl⟩;unfold ccj;rw[if_neg oO,if_neg oO,if_pos oO]
 refine Sr λ_ h=>zq rfl rfl (za rfl (zz (h ?_)));refine zy rfl ?_ ?_<;>intro s<;>try simp only[qs] at s
 ·refine Sr λ_ g=>zm rfl (za rfl (zz (g ?_)));refine zr (zr1 rfl rfl ?_);refine ⟨?_,rfl⟩;unfold ccj;rw[if_neg oO,if_neg oO,if_neg oO,if_pos oO]
 refine zkk (q (Sr λ_ f=>za rfl (zz (f ?_))));refine zr (zr1 rfl rfl ?_);refine ⟨?_,rfl⟩;unfold ccj;rw[if_neg oO,if_neg oO,if_neg oO,if_neg oO]
theorem on_fits{m:Nat}{e ex:Int}{c:Nat}(d:m≠0)(a:max ((bl m:Int)+e-53) (-1074)=ex)(f:(bl m:Int)+e<=1024)(g:(c:Int)=e-ex):m*2^c<9007199254740992/\((ex+1074).toNat=0\/4503599627370496<=m*2^c)/\m*2^c+(ex+1074).toNat*4503599627370496<9218868437227405312:=by
  have h:=adj d c
  have b:m*2^c<9007199254740992:=vQ.1 (show bl (m*2^c)<=53 by omega)
  refine ⟨b,?_,by omega⟩
  by_cases hx:ex = -1074
  · left;omega
  · right
    exact cbx.1 (show 52<bl (m*2^c) by omega)
theorem on_cuts{m:Nat}{e ex:Int}{c:Nat}(g:m≠0)(a:max ((bl m:Int)+e-53) (-1074)=ex)(d:(bl m:Int)+e<=1024)(f:(c:Int)=ex-e):m/2^c<9007199254740992/\((ex+1074).toNat=0\/4503599627370496<=m/2^c)/\m/2^c+(ex+1074).toNat*4503599627370496<9218868437227405312:=by
  have b:m/2^c<9007199254740992:=by
    rw[Nat.div_lt_iff_lt_mul (Nat.two_pow_pos c),show (9007199254740992:Nat)=2^53 by decide,<- Nat.pow_add]
    exact vQ.1 oO
  refine ⟨b,?_,by omega⟩
  by_cases hx:ex = -1074
  · left;omega
  · right
    rw[Nat.le_div_iff_mul_le (Nat.two_pow_pos c),show (4503599627370496:Nat)=2^52 by decide,<- Nat.pow_add]
    exact cbx.1 oO
theorem beyond_spec(neg:Bool)(mode:Int)(w:World):Ret Tryz.prog 214 [.agg [.int .i64 53,.int .i64 (-1074),.int .u64 9218868437227405312].toArray,.bool neg,.int .i64 mode] w λu w'=>u = .int .u64 (((if mode=1\/(mode=2/\neg=true)\/(mode=3/\neg=false) then 9218868437227405311 else 9218868437227405312):Nat):Int)/\Chg [] w w':=by
 have e:=crf w;refine zE3 Tryz.func214 rfl ?_;refine Sr λ_ n=>?_;refine WL.cgq rfl rfl rfl λv t j i h=>?_;have g:=Nat.le_trans e.size h;have e:=e.trans i;refine za rfl (zz (n (zc λ_ m=>?_)));refine CW.oX 23 (decide (mode=1\/(mode=2/\neg=true)\/(mode=3/\neg=false))) ?_ ?_
 ·refine zS λ_ d=>zm rfl (zq rfl rfl (zm rfl ?_));refine zb ?_ ?_<;>intro s<;>try simp only[qs] at s
  ·refine zv rfl (zv rfl (zv rfl (zu rfl (zv rfl (zt rfl rfl (zm rfl (zv rfl (zv rfl (zv rfl (zu rfl (zu rfl (zv rfl (zt rfl rfl (zz (d ?_)))))))))))))));refine ⟨rfl,rfl,j0.g8 rfl ?_ ?_⟩
   ·first|(simp;omega)|(cases neg<;>simp_all<;>omega)|(refine decide_eq_decide.2 ?_;omega)|(cases neg<;>simp_all)
   exact SMg
  refine zw rfl (zm rfl (zw rfl (zq rfl rfl (zw rfl (zm rfl ?_)))));refine zb ?_ ?_<;>intro r<;>try simp only[qs] at r
  ·refine zw rfl (zm rfl (zw rfl (zt rfl rfl (ze rfl rfl (zm rfl ?_)))));refine zb ?_ ?_<;>intro q<;>try simp only[qs] at q
   ·refine zv rfl (zv rfl (zv rfl (zu rfl (zu rfl (zv rfl (zt rfl rfl (zz (d ?_))))))));refine ⟨rfl,rfl,j0.g8 rfl ?_ ?_⟩
    ·first|(simp;omega)|(cases neg<;>simp_all<;>omega)|(refine decide_eq_decide.2 ?_;omega)|(cases neg<;>simp_all)
    exact SMg
   refine zw rfl (zm rfl (zw rfl (zq rfl rfl (zw rfl (zm rfl ?_)))));refine zb ?_ ?_<;>intro p<;>try simp only[qs] at p
   ·refine zw rfl (zm rfl (zw rfl (zT rfl (zw rfl (zt rfl rfl (ze rfl rfl (zz (d ?_))))))));refine ⟨rfl,rfl,j0.g8 rfl ?_ ?_⟩
    ·first|(simp;omega)|(cases neg<;>simp_all<;>omega)|(refine decide_eq_decide.2 ?_;omega)|(cases neg<;>simp_all)
    exact SMg
   refine zv rfl (zv rfl (zw rfl (ze rfl rfl (ze rfl rfl (zz (d ?_))))));refine ⟨rfl,rfl,j0.g8 rfl ?_ ?_⟩
   ·first|(simp;omega)|(cases neg<;>simp_all<;>omega)|(refine decide_eq_decide.2 ?_;omega)|(cases neg<;>simp_all)
   exact SMg
  refine zv rfl (zw rfl (ze rfl rfl (ze rfl rfl (zm rfl (zw rfl (zm rfl (zw rfl (zq rfl rfl (zw rfl (zm rfl ?_))))))))));refine zb ?_ ?_<;>intro o<;>try simp only[qs] at o
  ·refine zw rfl (zm rfl (zw rfl (zT rfl (zw rfl (zt rfl rfl (ze rfl rfl (zz (d ?_))))))));refine ⟨rfl,rfl,j0.g8 rfl ?_ ?_⟩
   ·first|(simp;omega)|(cases neg<;>simp_all<;>omega)|(refine decide_eq_decide.2 ?_;omega)|(cases neg<;>simp_all)
   exact SMg
  refine zv rfl (zv rfl (zw rfl (ze rfl rfl (ze rfl rfl (zz (d ?_))))));refine ⟨rfl,rfl,j0.g8 rfl ?_ ?_⟩
  ·first|(simp;omega)|(cases neg<;>simp_all<;>omega)|(refine decide_eq_decide.2 ?_;omega)|(cases neg<;>simp_all)
  exact SMg
 refine zy rfl ?_ ?_<;>intro f<;>try simp only[qs] at f
 ·refine Sr λ_ l=>zf rfl (zl j rfl rfl ?_);refine WL.ev (Ev.bfx (a:=9218868437227405312) (b:=1) rfl rfl oO oO) rfl ?_
  refine za rfl (zz (l ?_));refine zr (zr1 rfl rfl ?_);rw[if_pos f];exact ⟨rfl,e⟩
 refine zkk (m (Sr λ_ k=>zf rfl (zl j rfl rfl (za rfl (zz (k ?_))))));refine zr (zr1 rfl rfl ?_);rw[if_neg f];exact ⟨rfl,e⟩
theorem on_spec(neg:Bool)(v:Value)(m:Nat)(e mode:Int)(w:World)(j:NU w v (wd m))(B:(Dy.mk neg m e).ok)(hm:0<=mode/\mode<=4):Ret Tryz.prog 142 [.agg [.int .i64 53,.int .i64 (-1074),.int .u64 9218868437227405312].toArray,.agg [.bool neg,v,.int .i64 e].toArray,.int .i64 mode] w λu w'=>∃ r:Nat,u = .int .u64 (r:Int)/\mX (dyA m e) (dyB e) neg mode r/\r<=9218868437227405312/\Chg [] w w':=by
 have g:=crf w;have d6:=j.one;have he : -1048576<=e/\e<=1048576:=B.e;have hl:(wd m).length<=8192:=B.len;have d8:=aex (n:=m);have d9:bl m<=262144:=bdq.2 hl;refine zE3 Tryz.func142 rfl ?_;refine Sr λ_ c4=>?_;refine WL.cgq rfl rfl rfl λb3 d5 f z b0=>?_;have a9:=Nat.le_trans g.size b0;have g:=g.trans z;have j:=j.q8 z;refine WL.cgq rfl rfl rfl λb4 d4 h l y=>?_;have a8:=Nat.le_trans g.size y;have g:=g.trans l;have j:=j.q8 l;have b5:=zdd f.lt y;have f:=f.k0 l;refine za rfl (zz (c4 (Sr λ_ c3=>zf rfl (zl h rfl rfl ?_))));refine WL.call hasF139 rfl rfl (a4j _ _ _ j) λv w1 p=>?_;obtain ⟨rfl,rfl⟩:=p;rw[g7];refine za rfl (zz (c3 (zc λ_ c2=>Sr λ_ c1=>zm rfl (zq rfl rfl (zz (c1 ?_))))));refine zy rfl ?_ ?_<;>intro c8<;>try simp only[qs] at c8
 ·refine Sr λ_ b9=>za rfl (zz (b9 ?_));refine zr (zr1 rfl rfl ?_);have F:m=0:=by omega
  subst F;exact ⟨0,rfl,by unfold dyA;rw[Nat.zero_mul];exact cvx (zZ e) neg mode,by omega,g⟩
 have F:m≠0:=by omega
 refine zkk (c2 (zc λ_ a7=>?_));refine CW.jQ dZ oR λd2 O i=>?_;have g:=g.trans i;have f:=f.k0 i;have h:=h.k0 i;have j:=j.q8 i;refine yf rfl ?_;refine WS.ev (Ev.load rfl rfl (f.at_ rfl)) rfl ?_;refine yf rfl ?_;refine WS.ev (Ev.load rfl rfl (f.at_ rfl)) rfl ?_;refine yf rfl ?_;refine WS.ev (Ev.load rfl rfl (f.at_ rfl)) rfl ?_
 first|refine WS.ev (Ev.dX rfl rfl oO) rfl ?_|refine WS.ev (Ev.sub rfl rfl) rfl ?_
 refine WS.ev (Ev.avx (a:=9218868437227405312) (b:=52) rfl rfl oD) rfl ?_;refine WS.ev (Ev.eZ rfl rfl (tX oO)) rfl ?_
 first|refine WS.ev (Ev.kQ rfl rfl oO) rfl ?_|refine WS.ev (Ev.add rfl rfl) rfl ?_
 first|refine WS.ev (Ev.dX rfl rfl oO) rfl ?_|refine WS.ev (Ev.sub rfl rfl) rfl ?_
 refine yf rfl ?_;refine WS.ev (Ev.load rfl rfl (f.at_ rfl)) rfl ?_
 first|refine WS.ev (Ev.kQ rfl rfl oO) rfl ?_|refine WS.ev (Ev.add rfl rfl) rfl ?_
 refine WS.ev (Ev.dX rfl rfl oO) rfl ?_;rw[show (-1074:Int)+((9218868437227405312/2^52:Nat):Int)-1+53-1=1024 by omega];refine ya rfl ?_;refine WS.nil (O _ _ ?_);refine a7 (Sr λ_ a6=>zm rfl (zf rfl (zl h rfl rfl ?_)));(first|refine zi rfl rfl ?_|refine zo rfl rfl ?_);refine zf rfl (zl f rfl rfl ?_)
 first|refine WL.ev (Ev.dX rfl rfl oO) rfl ?_|refine WL.ev (Ev.sub rfl rfl) rfl ?_
 refine zf rfl (zl f rfl rfl ?_);refine WL.ev (Ev.maxI rfl rfl) rfl ?_;generalize hex:max ((bl m:Int)+e-53) (-1074)=ex;refine za rfl (zz (a6 (zc λ_ a5=>Sr λ_ a4=>zm rfl (zf rfl (zl h rfl rfl ?_)))));(first|refine zi rfl rfl ?_|refine zo rfl rfl ?_);refine zm rfl (zG rfl rfl (zz (a4 ?_)));refine zy rfl ?_ ?_<;>intro c7<;>try simp only[qs] at c7
 ·refine Sr λ_ a3=>zg f rfl (zf rfl (zl h rfl rfl (zm rfl ?_)));refine WL.call hasF214 rfl rfl (beyond_spec neg mode _) λv w2 p=>?_
  obtain ⟨rfl,b2⟩:=p;have g:=g.trans b2;refine za rfl (zz (a3 ?_));refine zr (zr1 rfl rfl ?_);exact ⟨_,rfl,near_beyond F oO hm,by split<;>omega,g⟩
 refine zkk (a5 (Sr λ_ a2=>zm rfl (zf rfl (zl h rfl rfl ?_))))
 first|refine WL.ev (Ev.dX rfl rfl oO) rfl ?_|refine WL.ev (Ev.sub rfl rfl) rfl ?_
 refine za rfl (zz (a2 (Sr λ_ a1=>za rfl (zz (a1 (zc λ_ s=>Sr λ_ a0=>zm rfl (zQ rfl rfl (zz (a0 ?_)))))))));refine zy rfl ?_ ?_<;>intro c6<;>try simp only[qs] at c6
 ·obtain ⟨c,C⟩ : ∃ c:Nat,(c:Int)=e-ex:=⟨(e-ex).toNat,by omega⟩
  obtain ⟨f1,f2,f3⟩:=on_fits F hex oO C;have x:m<18446744073709551616:=Nat.lt_of_le_of_lt (Nat.le_mul_of_pos_right m (Nat.two_pow_pos c)) oO;have d:decide (0<ex-e)=false:=decide_eq_false oO;refine Sr λ_ Z=>zf rfl (zl h rfl rfl ?_);refine WL.call hasF215 rfl rfl (dxq _ _ _ j) λv w3 p=>?_;obtain ⟨rfl,rfl⟩:=p;rw[g7,if_pos x,if_pos x];refine zm rfl (zx rfl rfl (zx rfl rfl (za rfl (zz (Z ?_)))));refine zR λ_ M=>?_;refine zm rfl (zm rfl ?_);refine WL.ev (Ev.bpx rfl oO) rfl ?_;rw[show -(ex-e)=((c:Nat):Int) by omega];refine WL.ev (Ev.aqx rfl rfl) rfl ?_;rw[Nat.mod_eq_of_lt (show m*2^c<18446744073709551616 by omega)];refine za rfl ?_;refine WL.nil (M _ _ _ (s ?_));refine zc λ_ Y=>zc λ_ X=>?_;refine CW.jQ dZ oR λd1 J i=>?_;have g:=g.trans i;have f:=f.k0 i;refine ym rfl ?_;refine WS.ev (Ev.gtr rfl rfl) rfl ?_;refine ym rfl ?_;refine WS.pass rfl rfl rfl (by rw[d];rfl) rfl ?_;refine WS.pass rfl rfl rfl (by rw[d];rfl) rfl ?_;refine WS.pass rfl rfl rfl (by rw[d];rfl) rfl ?_;refine WS.pass rfl rfl rfl (by rw[d];rfl) rfl ?_;refine WS.pass rfl rfl rfl (by rw[d];rfl) rfl ?_;refine WS.pass rfl rfl rfl (by rw[d];rfl) rfl ?_;refine WS.pass rfl rfl rfl (by rw[d];rfl) rfl ?_;refine WS.pass rfl rfl rfl (by rw[d];rfl) rfl ?_;refine WS.pass rfl rfl rfl (by rw[d];rfl) rfl ?_;refine WS.pass rfl rfl rfl (by rw[d];rfl) rfl ?_;refine WS.pass rfl rfl rfl (by rw[d];rfl) rfl ?_;refine WS.pass rfl rfl rfl (by rw[d];rfl) rfl ?_;refine WS.ev (Ev.aox rfl d rfl) rfl ?_;refine WS.nil (J _ _ ?_);refine X ?_;refine CW.mQ rfl ?_;refine zkk (Y (Sr λ_ V=>zm rfl (zm rfl (zf rfl (zl f rfl rfl ?_)))))
  first|refine WL.ev (Ev.dX rfl rfl oO) rfl ?_|refine WL.ev (Ev.sub rfl rfl) rfl ?_
  refine WL.ev (Ev.conv rfl rfl) rfl ?_;rw[wX,show (ex - -1074)%18446744073709551616=((((ex+1074).toNat):Nat):Int) by omega];refine zf rfl (zl f rfl rfl ?_);refine WL.ev (Ev.dX rfl rfl oO) rfl ?_;rw[show (53:Int)-1=((52:Nat):Int) by omega];refine WL.ev (Ev.aqx (b:=52) rfl rfl) rfl ?_;rw[Nat.mod_eq_of_lt (show ((ex+1074).toNat)*2^52<18446744073709551616 by omega)];refine WL.ev (Ev.iJ rfl rfl oO) rfl ?_;refine za rfl (zz (V ?_));refine zr (zr1 rfl rfl ?_);exact ⟨_,rfl,near_exact f1 f2 f3 rfl oO,by omega,g⟩
 obtain ⟨c,C⟩ : ∃ c:Nat,(c:Int)=ex-e:=⟨(ex-e).toNat,by omega⟩;obtain ⟨f1,f2,f3⟩:=on_cuts F hex oO C;have d:decide (0<ex-e)=true:=decide_eq_true oO;have t:m%2=1:=B.odd F;refine Sr λ_ U=>zf rfl (zl h rfl rfl (zm rfl ?_));refine WL.ev (Ev.bpx rfl oO) rfl ?_;refine WL.call hasF167 rfl rfl (arq _ _ _ _ j oO) λv w4 p=>?_;obtain ⟨A,k⟩:=p;rw[g7,show -(ex-e) = -((c:Nat):Int) by omega,cej _ _ oO] at A;rcases A with ⟨_,rk,rfl,c9⟩|⟨c5,_⟩
 rotate_left
 · exfalso;exact c5 ⟨hl,.inr oO⟩
 have g:=g.trans k;have f:=f.k0 k;have h:=h.k0 k;have j:=j.q8 k;refine zm rfl (zx rfl rfl (zx rfl rfl (za rfl (za rfl (zz (U ?_))))));refine zR λ_ I=>?_;refine zm rfl ?_;refine WL.call hasF215 rfl rfl (dxq _ _ _ c9) λv w5 p=>?_;obtain ⟨rfl,rfl⟩:=p;rw[g7,if_pos oO,if_pos oO];refine zm rfl (zx rfl rfl (zx rfl rfl (za rfl ?_)));refine WL.nil (I _ _ _ (s ?_));refine zc λ_ q=>zc λ_ T=>?_;refine CW.jQ dZ oR λd0 H i=>?_;have g:=g.trans i;have f:=f.k0 i;have h:=h.k0 i;have j:=j.q8 i;refine ym rfl ?_;refine WS.ev (Ev.gtr rfl rfl) rfl ?_;refine ym rfl ?_;refine WS.want rfl rfl rfl (by rw[d];rfl) ?_;refine ym rfl ?_;refine WS.want rfl rfl rfl (by rw[d];rfl) ?_;refine yf rfl ?_;refine WS.want rfl rfl rfl (by rw[d];rfl) ?_;refine WS.ev (Ev.load rfl rfl (h.at_ rfl)) rfl ?_;refine WS.want rfl rfl rfl (by rw[d];rfl) ?_;refine ym rfl ?_;refine WS.want rfl rfl rfl (by rw[d];rfl) ?_;refine yf rfl ?_;refine WS.want rfl rfl rfl (by rw[d];rfl) ?_;refine WS.ev (Ev.load rfl rfl (h.at_ rfl)) rfl ?_;refine WS.want rfl rfl rfl (by rw[d];rfl) ?_;refine ym rfl ?_;refine WS.want rfl rfl rfl (by rw[d];rfl) ?_
 first|refine WS.ev (Ev.dX rfl rfl oO) rfl ?_|refine WS.ev (Ev.sub rfl rfl) rfl ?_
 refine WS.want rfl rfl rfl (by rw[d];rfl) ?_;refine WS.call hasF217 rfl rfl (Bit_spec _ _ _ _ j oO) ?_;refine WS.want rfl rfl rfl (by rw[d];rfl) ?_;refine ym rfl ?_;refine WS.want rfl rfl rfl (by rw[d];rfl) ?_;refine WS.ev (Ev.eql rfl rfl) rfl ?_;refine WS.want rfl rfl rfl (by rw[d];rfl) ?_;refine WS.call hasF216 rfl rfl (away_spec mode neg (m/2^c) _ _ _ oO) ?_;refine WS.ev (Ev.aeq rfl d rfl) rfl ?_;refine WS.nil (H _ _ ?_);refine T ?_;refine zy rfl ?_ ?_<;>intro o<;>try simp only[qs] at o
 ·rw[g7,decide_eq_true (show (0:Int)<=ex-e-1 by omega),Bool.true_and,show (ex-e-1).toNat=c-1 by omega,show decide (ex-e=1)=decide (c=1) from decide_eq_decide.2 oO] at o
  have D:=o;refine zR λ_ G=>?_;refine zm rfl ?_;refine WL.ev (Ev.iJ (b:=1) rfl rfl oO) rfl ?_;refine za rfl ?_;refine WL.nil (G _ _ _ (q ?_));refine Sr λ_ R=>zm rfl (zm rfl (zf rfl (zl f rfl rfl ?_)))
  first|refine WL.ev (Ev.dX rfl rfl oO) rfl ?_|refine WL.ev (Ev.sub rfl rfl) rfl ?_
  refine WL.ev (Ev.conv rfl rfl) rfl ?_;rw[wX,show (ex - -1074)%18446744073709551616=((((ex+1074).toNat):Nat):Int) by omega];refine zf rfl (zl f rfl rfl ?_);refine WL.ev (Ev.dX rfl rfl oO) rfl ?_;rw[show (53:Int)-1=((52:Nat):Int) by omega];refine WL.ev (Ev.aqx (b:=52) rfl rfl) rfl ?_;rw[Nat.mod_eq_of_lt (show ((ex+1074).toNat)*2^52<18446744073709551616 by omega)];refine WL.ev (Ev.iJ rfl rfl oO) rfl ?_;refine za rfl (zz (R ?_));refine zr (zr1 rfl rfl ?_);have hN:=near_cut (e:=e) f1 f2 f3 (neg:=neg) (mode:=mode) (half:=m.testBit (c-1)) (up:=ccj mode neg (m/2^c) (m.testBit (c-1)) (decide (c=1))) oO t rfl oO rfl rfl;rw[D,if_pos rfl] at hN;exact ⟨_,rfl,by rw[show m/2^c+1+((ex+1074).toNat)*2^52=m/2^c+1+((ex+1074).toNat)*4503599627370496 by omega];exact hN,by omega,g⟩
 rw[g7,decide_eq_true (show (0:Int)<=ex-e-1 by omega),Bool.true_and,show (ex-e-1).toNat=c-1 by omega,show decide (ex-e=1)=decide (c=1) from decide_eq_decide.2 oO] at o;have D:=o;refine zkk (q (Sr λ_ Q=>zm rfl (zm rfl (zf rfl (zl f rfl rfl ?_)))))
 first|refine WL.ev (Ev.dX rfl rfl oO) rfl ?_|refine WL.ev (Ev.sub rfl rfl) rfl ?_
 refine WL.ev (Ev.conv rfl rfl) rfl ?_;rw[wX,show (ex - -1074)%18446744073709551616=((((ex+1074).toNat):Nat):Int) by omega];refine zf rfl (zl f rfl rfl ?_);refine WL.ev (Ev.dX rfl rfl oO) rfl ?_;rw[show (53:Int)-1=((52:Nat):Int) by omega];refine WL.ev (Ev.aqx (b:=52) rfl rfl) rfl ?_;rw[Nat.mod_eq_of_lt (show ((ex+1074).toNat)*2^52<18446744073709551616 by omega)];refine WL.ev (Ev.iJ rfl rfl oO) rfl ?_;refine za rfl (zz (Q ?_));refine zr (zr1 rfl rfl ?_);have hN:=near_cut (e:=e) f1 f2 f3 (neg:=neg) (mode:=mode) (half:=m.testBit (c-1)) (up:=ccj mode neg (m/2^c) (m.testBit (c-1)) (decide (c=1))) oO t rfl oO rfl rfl;rw[D] at hN;exact ⟨_,rfl,hN,by omega,g⟩
theorem negF{x:Nat}(h:x<9223372036854775808):Op.negFloat .f64 x=x+9223372036854775808:=by
  show x ^^^ 2^63=_
  have a:x ^^^ 2^63=x||| 2^63:=by
    apply Nat.eq_of_testBit_eq
    intro j
    rw[Nat.testBit_xor,Nat.testBit_or,Nat.testBit_two_pow]
    by_cases hj:63=j
    · subst hj
      rw[Nat.testBit_lt_two_pow (show x<2^63 from h)]
      simp
    · simp[hj]
  have:=agj (x:=x) (y:=1) (s:=63) h
  rw[Nat.one_mul] at this
  rw[a,this]
theorem dtold_spec(R:Bool)(Q:Value)(T:List Nat)(A mode:Int)(w:World)(p:NU w Q T)(Y:GW w)(G : -9223372036854775808<=A/\A<=9223372036854775807):Ret Tryz.prog 141 [.agg [.bool R,Q,.int .i64 A].toArray,.int .i64 mode] w λu w'=>((¬(0<=mode/\mode<=4)/\u = .tuple [.agg [.bool false,.slice none 0 0,.int .i64 0].toArray,.int .i64 1].toArray)\/((0<=mode/\mode<=4)/\DR w' u (cX R (val T) A)))/\Chg [] w w':=by
 have a:=crf w;have X:=p.one;refine zE2 Tryz.func141 rfl ?_;refine Sr λ_ D=>?_;refine WL.cgq rfl rfl rfl λb2 V f j y=>?_;have x:=Nat.le_trans a.size y;have a:=a.trans j;have p:=p.q8 j;refine WL.iZ (l:=[.bool false,.slice none 0 0,.int .i64 0]) rfl rfl λb4 U e h i=>?_;have t:=Nat.le_trans a.size i;have a:=a.trans h;have p:=p.q8 h;have z:=zdd f.lt i;have f:=f.k0 h;refine za rfl (zz (D (zc λ_ C=>?_)));refine CW.oX 11 (decide (mode<0\/4<mode)) ?_ ?_
 ·refine zS λ_ q=>zm rfl (zL rfl rfl (zm rfl ?_));refine zb ?_ ?_<;>intro F<;>try simp only[qs] at F
  ·refine zv rfl (zv rfl (zt rfl rfl (zz (q ?_))));refine ⟨rfl,rfl,j0.g8 rfl ?_ ?_⟩
   ·first|(simp;omega)|(refine decide_eq_decide.2 ?_;omega)
   exact SMg
  refine zw rfl (zm rfl (zw rfl (zG rfl rfl (ze rfl rfl (zz (q ?_))))));refine ⟨rfl,rfl,j0.g8 rfl ?_ ?_⟩
  ·first|(simp;omega)|(refine decide_eq_decide.2 ?_;omega)
  exact SMg
 refine zy rfl ?_ ?_<;>intro I<;>try simp only[qs] at I
 ·refine Sr λ_ B=>?_
  refine WL.ev (Ev.build (vs:=_) (cs:=[_,_,_]) rfl rfl) rfl ?_;refine zss rfl rfl ao e rfl λO b n=>?_;(try simp only[qt] at b);have a:=a.s2 n;have e:=b;refine za rfl (zz (B ?_));refine zr (k9.iX rfl (aZ.cell rfl (e.fJ rfl rfl)) (aZ.tmp rfl) ?_);exact ⟨.inl ⟨by omega,rfl⟩,a⟩
 refine zkk (C (Sr λ_ s=>zf rfl (zl f rfl rfl (zf rfl (zl f rfl rfl (zf rfl (zl f rfl rfl ?_)))))));refine WL.call hasF133 rfl rfl (abx _ _ _ _ _ p (Y.q8 a) G) λv w1 h'=>?_;obtain ⟨Z,k⟩:=h';have a:=a.trans k;have e:=e.k0 k;rcases Z with ⟨r,d,H,rfl,o⟩|⟨H,rfl⟩
 ·refine zx rfl rfl (zx rfl rfl ?_);refine zss rfl rfl ao e rfl λM b g=>?_;(try simp only[qt] at b);have a:=a.s2 g;have o:=o.q9 e g an;have e:=b;refine za rfl (zz (s ?_));refine zr (k9.iX rfl (aZ.cell rfl (e.fJ rfl rfl)) (aZ.tmp rfl) ?_);exact ⟨.inr ⟨by omega,.inl ⟨r,d,H,rfl,o⟩⟩,a⟩
 refine zx rfl rfl (zx rfl rfl ?_);refine zss rfl rfl ao e rfl λJ b m=>?_;(try simp only[qt] at b);have a:=a.s2 m;have e:=b;refine za rfl (zz (s ?_));refine zr (k9.iX rfl (aZ.cell rfl (e.fJ rfl rfl)) (aZ.tmp rfl) ?_);exact ⟨.inr ⟨by omega,.inr ⟨H,rfl⟩⟩,a⟩
def cyq(x:Option Dy)(mode:Int)(bits:Nat)(e:Int):Prop:=
  (¬(0<=mode/\mode<=4)/\bits=0/\e=1)\/((0<=mode/\mode<=4)/\((x=none/\bits=0/\e=2)\/∃ d r,x=some d/\mX (dyA d.m d.e) (dyB d.e) d.neg mode r/\r<=9218868437227405312/\bits=(if d.neg then r+9223372036854775808 else r)/\e=0))
theorem c2j(na:Bool)(va:Value)(la:List Nat)(X mode:Int)(w:World)(V:NU w va la)(hg:GW w)(a2 : -9223372036854775808<=X/\X<=9223372036854775807):Ret Tryz.prog 76 [.agg [.bool na,va,.int .i64 X].toArray,.int .i64 mode] w λu w'=>(∃ bits e,u = .tuple [.float .f64 bits,.int .i64 e].toArray/\cyq (cX na (val la) X) mode bits e)/\Chg [] w w':=by
 have a:=crf w;have b9:=V.one;refine zE2 Tryz.func76 rfl ?_;refine Sr λ_ a0=>?_;refine WL.cgq rfl rfl rfl λb2 b7 a3 p R=>?_;have Q:=Nat.le_trans a.size R;have a:=a.trans p;have V:=V.q8 p;refine za rfl (za rfl (zz (a0 (Sr λ_ t=>zg a3 rfl (zm rfl ?_)))));refine WL.call hasF141 rfl rfl (dtold_spec _ _ _ _ mode _ V (hg.q8 a) a2) λv w1 h'=>?_;obtain ⟨hD,U⟩:=h';have a:=a.trans U;rcases hD with ⟨A,rfl⟩|⟨A,⟨r,d,T,rfl,n⟩|⟨T,rfl⟩⟩
 ·refine zm rfl (zx rfl rfl (zx rfl rfl ?_));refine WL.iZ (l:=[.bool false,.slice none 0 0,.int .i64 0]) rfl rfl λb6 B b f i=>?_;have h:=Nat.le_trans a.size i;have a:=a.trans f;refine zss rfl rfl ao b rfl λa7 g y=>?_;(try simp only[qt] at g);have a:=a.s2 y;refine za rfl (zz (t (zc λ_ b8=>Sr λ_ Z=>zm rfl (zN rfl rfl (zz (Z ?_))))));refine CW.nJ rfl ?_;refine Sr λ_ Y=>zm rfl (za rfl (za rfl (zz (Y ?_))));refine zr (zr2 rfl rfl rfl ?_);exact ⟨⟨_,_,rfl,.inl ⟨A,rfl,rfl⟩⟩,a⟩
 ·have a1:=jZ T;refine zm rfl (zx rfl rfl (zx rfl rfl ?_));refine WL.iZ (l:=[.bool false,.slice none 0 0,.int .i64 0]) rfl rfl λb6 B b f i=>?_;have h:=Nat.le_trans a.size i;have a:=a.trans f;have n:=n.q8 f;refine zss rfl rfl ao b rfl λa6 g k=>?_;(try simp only[qt] at g);have a:=a.s2 k;have n:=n.q9 b k an;have b:=g;refine za rfl (zz (t (zc λ_ O=>Sr λ_ M=>zm rfl (zN rfl rfl (zz (M ?_))))));refine CW.mQ rfl ?_;refine zkk (O (Sr λ_ J=>?_));refine WL.ev (Ev.build (vs:=_) (cs:=[_,_,_]) rfl rfl) rfl ?_;refine zg b rfl (zm rfl ?_);refine WL.call hasF142 rfl rfl (on_spec d.neg r d.m d.e mode _ n a1 A) λv w2 h'=>?_;obtain ⟨q,rfl,hN,hq,s⟩:=h';have a:=a.trans s;have b:=b.k0 s;refine WL.ev (Ev.ext rfl (ext82 _ _)) rfl ?_;rw[show ((q:Nat):Int).toNat=q by omega];refine za rfl (zz (J (zc λ_ o=>Sr λ_ I=>zf rfl (zl b rfl rfl (zz (I ?_))))));refine zy rfl ?_ ?_<;>intro z<;>try simp only[qs] at z
  ·have j:=z
   refine zR λ_ C=>?_;refine zm rfl ?_;refine WL.ev (Ev.fneg rfl) rfl ?_;rw[negF oO];refine za rfl ?_;refine WL.nil (C _ _ _ (o ?_));refine Sr λ_ H=>zm rfl (za rfl (za rfl (zz (H ?_))));refine zr (zr2 rfl rfl rfl ?_);exact ⟨⟨_,_,rfl,.inr ⟨A,.inr ⟨d,q,T,hN,hq,by rw[if_pos j],rfl⟩⟩⟩,a⟩
  have j:=z;refine zkk (o (Sr λ_ G=>zm rfl (za rfl (za rfl (zz (G ?_))))));refine zr (zr2 rfl rfl rfl ?_);exact ⟨⟨_,_,rfl,.inr ⟨A,.inr ⟨d,q,T,hN,hq,by rw[if_neg (by rw[j];decide)],rfl⟩⟩⟩,a⟩
 refine zm rfl (zx rfl rfl (zx rfl rfl ?_));refine WL.iZ (l:=[.bool false,.slice none 0 0,.int .i64 0]) rfl rfl λb6 B b f i=>?_;have h:=Nat.le_trans a.size i;have a:=a.trans f;refine zss rfl rfl ao b rfl λa5 g x=>?_;(try simp only[qt] at g);have a:=a.s2 x;refine za rfl (zz (t (zc λ_ b1=>Sr λ_ F=>zm rfl (zN rfl rfl (zz (F ?_))))));refine CW.nJ rfl ?_;refine Sr λ_ D=>zm rfl (za rfl (za rfl (zz (D ?_))));refine zr (zr2 rfl rfl rfl ?_);exact ⟨⟨_,_,rfl,.inr ⟨A,.inl ⟨T,rfl,rfl⟩⟩⟩,a⟩
structure PP where
  neg:Bool
  cls:Nat
  exp:Int
  frac:Nat
def g6(x:Nat):PP:=
  if x/4503599627370496%2048=2047/\x%4503599627370496≠0 then ⟨false,4,0,0⟩
  else if x/4503599627370496%2048=2047 then ⟨decide (x/9223372036854775808%2=1),3,0,0⟩
  else if 0<x/4503599627370496%2048 then ⟨decide (x/9223372036854775808%2=1),2,-1074+((x/4503599627370496%2048:Nat):Int)-1,x%4503599627370496+4503599627370496⟩
  else if 0<x%4503599627370496 then ⟨decide (x/9223372036854775808%2=1),1,-1074,x%4503599627370496⟩
  else ⟨decide (x/9223372036854775808%2=1),0,-1074,0⟩
theorem parts_spec(x:Nat)(w:World)(hx:x<18446744073709551616):Ret Tryz.prog 205 [.agg [.int .i64 11,.int .i64 52,.int .i64 (-1074)].toArray,.int .u64 (x:Int)] w λu w'=>u = .agg [.bool (g6 x).neg,.int .i64 ((g6 x).cls:Int),.int .i64 (g6 x).exp,.int .u64 ((g6 x).frac:Int)].toArray/\Chg [] w w':=by
 have d:=crf w;refine zE2 Tryz.func205 rfl ?_;refine Sr λ_ X=>?_;refine zBh rfl rfl rfl d λb2 b5 g a6 a5 F d=>?_;refine WL.iZ (l:=[.bool false,.int .i64 0,.int .i64 0,.int .u64 0]) rfl rfl λb4 b3 f n m=>?_;have D:=Nat.le_trans d.size m;have d:=d.ta n;have O:=zdd g.lt m;have g:=g.k0 n;refine zz (X (Sr λ_ V=>zm rfl (zf rfl (zl g rfl rfl ?_))));refine WL.ev (Ev.aqx (a:=1) (b:=52) rfl rfl) rfl ?_;rw[show 1*2^52%18446744073709551616=4503599627370496 by omega];refine WL.ev (Ev.bfx (b:=1) rfl rfl oO oO) rfl ?_;refine WL.ev (Ev.andU rfl rfl rfl (by simp only[IntKind.bits];omega) (by simp only[IntKind.bits];omega)) rfl ?_;rw[show x&&& (4503599627370496-1)=x%4503599627370496 from Nat.and_two_pow_sub_one_eq_mod x 52];refine za rfl (zz (V (zc λ_ U=>?_)));refine CW.jQ dZ oR λb6 Q h=>?_;have d:=d.ta h;have g:=g.k0 h;have f:=f.k0 h;refine ym rfl (yf rfl ?_);refine WS.ev (Ev.load rfl rfl (g.at_ rfl)) rfl ?_;refine WS.ev (Ev.avx (b:=52) rfl rfl (by simp only[IntKind.bits];omega)) rfl ?_;rw[show x/2^52=x/4503599627370496 by omega];refine WS.ev (Ev.eZ rfl rfl (tX oO)) rfl ?_;refine yf rfl ?_;refine WS.ev (Ev.load rfl rfl (g.at_ rfl)) rfl ?_;refine WS.ev (Ev.shlI (a:=1) (b:=11) (c:=2048) rfl rfl oD oD) rfl ?_
 first|refine WS.ev (Ev.dX rfl rfl oO) rfl ?_|refine WS.ev (Ev.sub rfl rfl) rfl ?_
 refine WS.ev (Ev.andI (b:=2047) rfl rfl oO oO) rfl ?_;rw[show x/4503599627370496&&& 2047=x/4503599627370496%2048 from Nat.and_two_pow_sub_one_eq_mod _ 11];refine ya rfl ?_;refine WS.nil (Q _ _ ?_);refine U (Sr λ_ T=>zm rfl (zf rfl (zl g rfl rfl (zf rfl (zl g rfl rfl ?_)))));(first|refine zi rfl rfl ?_|refine zo rfl rfl ?_);refine WL.ev (Ev.avx (b:=63) rfl rfl (by simp only[IntKind.bits];omega)) rfl ?_;rw[show x/2^63=x/9223372036854775808 by omega];refine WL.ev (Ev.andU (b:=1) rfl rfl rfl (by simp only[IntKind.bits];omega) (by simp only[IntKind.bits];omega)) rfl ?_;rw[Nat.and_one_is_mod];refine zq rfl rfl ?_;have Y:decide (((x/9223372036854775808%2:Nat):Int)=1)=decide (x/9223372036854775808%2=1):=decide_eq_decide.2 oO;rw[Y];refine za rfl (zz (T (zc λ_ R=>CW.block ?_)));refine CW.oX 33 (decide (x/4503599627370496%2048=2047/\x%4503599627370496≠0)) ?_ ?_
 ·refine zS λ_ k=>zm rfl (zf rfl (zl g rfl rfl ?_));refine WL.ev (Ev.shlI (a:=1) (b:=11) (c:=2048) rfl rfl oD oD) rfl ?_
  first|refine WL.ev (Ev.dX rfl rfl oO) rfl ?_|refine WL.ev (Ev.sub rfl rfl) rfl ?_
  refine zq rfl rfl (zm rfl ?_);refine zb ?_ ?_<;>intro Z<;>try simp only[qs] at Z
  ·refine zw rfl (zm rfl (zw rfl (zN rfl rfl (zt rfl rfl (za rfl (zz (k ?_)))))));refine ⟨rfl,rfl,j0.g8 rfl ?_ ?_⟩
   ·first|(simp;omega)|(refine decide_eq_decide.2 ?_;omega)
   exact SMg
  refine zv rfl (zv rfl (ze rfl rfl (za rfl (zz (k ?_)))));refine ⟨rfl,rfl,j0.g8 rfl ?_ ?_⟩
  ·first|(simp;omega)|(refine decide_eq_decide.2 ?_;omega)
  exact SMg
 refine zy rfl ?_ ?_<;>intro a3<;>try simp only[qs] at a3
 ·refine Sr λ_ C=>?_
  refine WL.ev (Ev.build (vs:=_) (cs:=[_,_,_,_]) rfl rfl) rfl ?_;refine zss rfl rfl ao f rfl λb1 e M=>?_;(try simp only[qt] at e);have d:=d.s1 M;have f:=e;refine zz (C ?_);refine zr (k9.qJ rfl (aZ.cell rfl (f.fJ rfl rfl)) ?_);unfold g6;rw[if_pos oO];exact ⟨rfl,d⟩
 refine Sr λ_ B=>zm rfl (zf rfl (zl g rfl rfl ?_));refine WL.ev (Ev.shlI (a:=1) (b:=11) (c:=2048) rfl rfl oD oD) rfl ?_
 first|refine WL.ev (Ev.dX rfl rfl oO) rfl ?_|refine WL.ev (Ev.sub rfl rfl) rfl ?_
 refine zq rfl rfl (za rfl (zz (B ?_)));refine zy rfl ?_ ?_<;>intro a2<;>try simp only[qs] at a2
 ·refine Sr λ_ A=>zm rfl ?_
  refine WL.ev (Ev.build (vs:=_) (cs:=[_,_,_,_]) rfl rfl) rfl ?_;refine zss rfl rfl ao f rfl λb0 e J=>?_;(try simp only[qt] at e);have d:=d.s1 J;have f:=e;refine zz (A ?_);refine zr (k9.qJ rfl (aZ.cell rfl (f.fJ rfl rfl)) ?_);unfold g6;rw[if_neg oO,if_pos oO];exact ⟨rfl,d⟩
 refine Sr λ_ z=>zm rfl (zG rfl rfl (za rfl (zz (z ?_))));refine zy rfl ?_ ?_<;>intro a1<;>try simp only[qs] at a1
 ·refine zc λ_ v=>?_
  refine CW.gJ 12 13 rfl dZ λa4 p i h=>?_;have d:=d.ta h;have g:=g.k0 h;have f:=f.k0 h;have j:=g;refine wk 0 rfl i (eM rfl) (wk 1 rfl i (eF rfl) (wk 2 rfl i (λ_ o=>Ev.load rfl rfl ((j.q8 o).at_ rfl)) (wk 3 rfl i (eM rfl) (wk 4 rfl i (λ_ _=>Ev.kQ rfl rfl oO) (wk 5 rfl i (λ_ _=>Ev.dX rfl rfl oO) (wk 6 rfl i (eM rfl) (wk 7 rfl i (eF rfl) (wk 8 rfl i (λ_ o=>Ev.load rfl rfl ((j.q8 o).at_ rfl)) (wk 9 rfl i (λ_ _=>Ev.aqx (a:=1) (b:=52) rfl rfl) ?_)))))))));rw[show 1*2^52%18446744073709551616=4503599627370496 by omega];refine wk 10 rfl i (λ_ _=>Ev.orU rfl rfl rfl (by simp only[IntKind.bits];omega) (by simp only[IntKind.bits];omega)) ?_;rw[show x%4503599627370496||| 4503599627370496=x%4503599627370496+4503599627370496 from agj (s:=52) (y:=1) (Nat.mod_lt _ oD)];refine wk 11 rfl i (λ_ _=>Ev.build (vs:=_) (cs:=[_,_,_,_]) rfl rfl) ?_;refine WK.nZ 12 rfl oR oR rfl rfl rfl ao f oS rfl λa9 e I=>?_;(try simp only[qt] at e);have d:=d.s1 I;have f:=e;refine WK.done oR (p _ _ _ ?_);refine v ?_;refine zr (k9.qJ rfl (aZ.cell rfl (f.fJ rfl rfl)) ?_);unfold g6;rw[if_neg oO,if_neg oO,if_pos oO];exact ⟨rfl,d⟩
 refine Sr λ_ t=>zm rfl (zG rfl rfl (za rfl (zz (t ?_))));refine zy rfl ?_ ?_<;>intro a0<;>try simp only[qs] at a0
 ·refine Sr λ_ r=>zm rfl (zf rfl (zl g rfl rfl (zm rfl ?_)));refine WL.ev (Ev.build (vs:=_) (cs:=[_,_,_,_]) rfl rfl) rfl ?_
  refine zss rfl rfl ao f rfl λa8 e H=>?_;(try simp only[qt] at e);have d:=d.s1 H;have f:=e;refine zz (r ?_);refine zr (k9.qJ rfl (aZ.cell rfl (f.fJ rfl rfl)) ?_);unfold g6;rw[if_neg oO,if_neg oO,if_neg oO,if_pos oO];exact ⟨rfl,d⟩
 refine zkk (R (Sr λ_ q=>zm rfl (zf rfl (zl g rfl rfl ?_))));refine WL.ev (Ev.build (vs:=_) (cs:=[_,_,_,_]) rfl rfl) rfl ?_;refine zss rfl rfl ao f rfl λa7 e G=>?_;(try simp only[qt] at e);have d:=d.s1 G;have f:=e;refine zz (q ?_);refine zr (k9.qJ rfl (aZ.cell rfl (f.fJ rfl rfl)) ?_);unfold g6;rw[if_neg oO,if_neg oO,if_neg oO,if_neg oO];exact ⟨rfl,d⟩
theorem long_spec(w:World):Ret Tryz.prog 204 [] w λu w'=>u = .agg [.int .i64 11,.int .i64 52,.int .i64 (-1074)].toArray/\Chg [] w w':=by
 have a:=crf w;refine zE0 Tryz.func204 rfl ?_;refine Sr λ_ j=>?_;refine WL.iZ (l:=[.int .i64 0,.int .i64 0,.int .i64 0]) rfl rfl λn m d h f=>?_;have e:=Nat.le_trans a.size f;have a:=a.ta h;refine zz (j (Sr λ_ i=>?_));refine WL.ev (Ev.build (vs:=_) (cs:=[_,_,_]) rfl rfl) rfl ?_;refine zss rfl rfl ao d rfl λk b g=>?_;(try simp only[qt] at b);have a:=a.s1 g;have d:=b;refine zz (i ?_);refine zr (k9.qJ rfl (aZ.cell rfl (d.fJ rfl rfl)) ?_);exact ⟨rfl,a⟩
theorem dxx(x:Nat)(w:World)(q:x<18446744073709551616):Ret Tryz.prog 132 [.float .f64 x] w λu w'=>u = .agg [.bool (g6 x).neg,.int .i64 ((g6 x).cls:Int),.int .i64 (g6 x).exp,.int .u64 ((g6 x).frac:Int)].toArray/\Chg [] w w':=by
 have a:=crf w;refine zE1 Tryz.func132 rfl ?_;refine Sr λ_ m=>?_;refine WL.iZ (l:=[.bool false,.int .i64 0,.int .i64 0,.int .u64 0]) rfl rfl λt p b h f=>?_;have e:=Nat.le_trans a.size f;have a:=a.ta h;refine zz (m (Sr λ_ k=>?_));refine WL.call hasF204 rfl rfl (long_spec _) λv s n=>?_;obtain ⟨rfl,j⟩:=n;have a:=a.ta j;have b:=b.k0 j;refine zm rfl ?_;refine WL.ev (Ev.ext rfl (ext48 _ _)) rfl ?_;refine WL.call hasF205 rfl rfl (parts_spec x _ q) λv r n=>?_;obtain ⟨rfl,i⟩:=n;have a:=a.ta i;have b:=b.k0 i;refine zss rfl rfl ao b rfl λo d g=>?_;(try simp only[qt] at d);have a:=a.s1 g;have b:=d;refine zz (k ?_);refine zr (k9.qJ rfl (aZ.cell rfl (b.fJ rfl rfl)) ?_);exact ⟨rfl,a⟩
def k8(x:Nat):Nat:=
  if (g6 x).cls=4 then 5 else if (g6 x).cls=3/\(g6 x).neg=true then 4 else if (g6 x).cls=3 then 3
  else if (g6 x).cls=0/\(g6 x).neg=true then 1 else if (g6 x).cls=0 then 2 else 0
theorem kind_spec(x:Nat)(w:World)(T:x<18446744073709551616):Ret Tryz.prog 130 [.float .f64 x] w λu w'=>u = .int .i64 (k8 x:Int)/\Chg [] w w':=by
 have a:=crf w;refine zE1 Tryz.func130 rfl ?_;refine Sr λ_ F=>za rfl (zz (F (Sr λ_ D=>zm rfl ?_)));refine WL.call hasF132 rfl rfl (dxx x _ T) λv V U=>?_;obtain ⟨rfl,O⟩:=U;have a:=a.ta O;refine WL.iZ (l:=[.bool false,.int .i64 0,.int .i64 0,.int .u64 0]) rfl rfl λX R d z t=>?_;have s:=Nat.le_trans a.size t;have a:=a.ta z;refine zss rfl rfl ao d rfl λQ h y=>?_;(try simp only[qt] at h);have a:=a.s1 y;have d:=h;refine zz (D (zc λ_ C=>CW.block (Sr λ_ B=>zf rfl (zl d rfl rfl (zq rfl rfl (za rfl (zz (B ?_))))))));refine zy rfl ?_ ?_<;>intro M<;>try simp only[qs] at M
 ·refine Sr λ_ A=>za rfl (zz (A ?_));refine zr (zr1 rfl rfl ?_);unfold k8;rw[if_pos oO];exact ⟨rfl,a⟩
 refine CW.oX 10 (decide ((g6 x).cls=3/\(g6 x).neg=true)) ?_ ?_
 ·refine zS λ_ g=>zf rfl (zl d rfl rfl (zq rfl rfl (zm rfl ?_)));refine zb ?_ ?_<;>intro H<;>try simp only[qs] at H
  ·refine zw rfl (zf rfl (zw rfl (zl d rfl rfl (zt rfl rfl (za rfl (zz (g ?_)))))));refine ⟨rfl,rfl,j0.g8 rfl ?_ ?_⟩
   ·first|(simp_all;done)|(simp;omega)|(cases hnn:(g6 x).neg<;>simp_all<;>omega)
   exact SMg
  refine zv rfl (zv rfl (ze rfl rfl (za rfl (zz (g ?_)))));refine ⟨rfl,rfl,j0.g8 rfl ?_ ?_⟩
  ·first|(simp_all;done)|(simp;omega)|(cases hnn:(g6 x).neg<;>simp_all<;>omega)
  exact SMg
 refine zy rfl ?_ ?_<;>intro j<;>try simp only[qs] at j
 ·have b:=j
  refine Sr λ_ r=>za rfl (zz (r ?_));refine zr (zr1 rfl rfl ?_);unfold k8;rw[if_neg oO,if_pos b];exact ⟨rfl,a⟩
 have b:=j;refine Sr λ_ q=>zf rfl (zl d rfl rfl (zq rfl rfl (za rfl (zz (q ?_)))));refine zy rfl ?_ ?_<;>intro J<;>try simp only[qs] at J
 ·refine Sr λ_ p=>za rfl (zz (p ?_));refine zr (zr1 rfl rfl ?_);unfold k8;rw[if_neg oO,if_neg b,if_pos oO];exact ⟨rfl,a⟩
 refine CW.oX 22 (decide ((g6 x).cls=0/\(g6 x).neg=true)) ?_ ?_
 ·refine zS λ_ f=>zf rfl (zl d rfl rfl (zq rfl rfl (zm rfl ?_)));refine zb ?_ ?_<;>intro G<;>try simp only[qs] at G
  ·refine zw rfl (zf rfl (zw rfl (zl d rfl rfl (zt rfl rfl (za rfl (zz (f ?_)))))));refine ⟨rfl,rfl,j0.g8 rfl ?_ ?_⟩
   ·first|(simp_all;done)|(simp;omega)|(cases hnn:(g6 x).neg<;>simp_all<;>omega)
   exact SMg
  refine zv rfl (zv rfl (ze rfl rfl (za rfl (zz (f ?_)))));refine ⟨rfl,rfl,j0.g8 rfl ?_ ?_⟩
  ·first|(simp_all;done)|(simp;omega)|(cases hnn:(g6 x).neg<;>simp_all<;>omega)
  exact SMg
 refine zy rfl ?_ ?_<;>intro i<;>try simp only[qs] at i
 ·have e:=i
  refine Sr λ_ o=>za rfl (zz (o ?_));refine zr (zr1 rfl rfl ?_);unfold k8;rw[if_neg oO,if_neg b,if_neg oO,if_pos e];exact ⟨rfl,a⟩
 have e:=i;refine Sr λ_ n=>zf rfl (zl d rfl rfl (zq rfl rfl (za rfl (zz (n ?_)))));refine zy rfl ?_ ?_<;>intro I<;>try simp only[qs] at I
 ·refine Sr λ_ m=>za rfl (zz (m ?_));refine zr (zr1 rfl rfl ?_);unfold k8;rw[if_neg oO,if_neg b,if_neg oO,if_neg e,if_pos oO];exact ⟨rfl,a⟩
 refine zkk (C (Sr λ_ k=>za rfl (zz (k ?_))));refine zr (zr1 rfl rfl ?_);unfold k8;rw[if_neg oO,if_neg b,if_neg oO,if_neg e,if_neg oO];exact ⟨rfl,a⟩
theorem c2q(n:Int)(w:World):Ret Tryz.prog 203 [.int .i64 n] w λu w'=>u = .bool (decide (0<=n/\n<=2))/\w=w':=by
 refine zE1 Tryz.func203 rfl ?_;refine Sr λ_ b=>za rfl (zz (b (Sr λ_ a=>zm rfl ?_)));refine WL.ev (Ev.geq rfl rfl) rfl ?_;refine zm rfl ?_;refine zb ?_ ?_<;>intro d<;>try simp only[qs] at d
 ·refine zw rfl (zm rfl (zw rfl (zQ rfl rfl (zt rfl rfl (za rfl (zz (a ?_)))))));refine zr (zr1 rfl rfl ?_);refine ⟨congrArg Value.bool (decide_eq_decide.2 oO),rfl⟩
 refine zv rfl (zv rfl (ze rfl rfl (za rfl (zz (a ?_)))));refine zr (zr1 rfl rfl ?_);refine ⟨?_,rfl⟩;rw[decide_eq_false oO]
def yZ(a b:Int):Prop:=(0<=a/\a<=2)/\(0<=b/\b<=2)
instance (a b:Int):Decidable (yZ a b):=by unfold yZ;exact inferInstance
theorem dyx(f g:Int)(w:World):Ret Tryz.prog 129 [.agg [.int .i64 f,.int .i64 g].toArray] w λu w'=>u = .bool (decide (yZ f g))/\Chg [] w w':=by
 have a:=crf w;refine zE1 Tryz.func129 rfl ?_;refine Sr λ_ h=>?_;refine zBh rfl rfl rfl a λp m e l k d a=>?_;refine za rfl (zz (h (Sr λ_ b=>zf rfl (zl e rfl rfl ?_))));refine WL.call hasF203 rfl rfl (c2q f _) λv o j=>?_;obtain ⟨rfl,rfl⟩:=j;refine zm rfl ?_;refine zb ?_ ?_<;>intro i<;>try simp only[qs] at i
 ·refine zw rfl (zf rfl (zw rfl (zl e rfl rfl (zw rfl ?_))));refine WL.call hasF203 rfl rfl (c2q g _) λv n j=>?_
  obtain ⟨rfl,rfl⟩:=j;refine zt rfl rfl (za rfl (zz (b ?_)));refine zr (zr1 rfl rfl ?_);refine ⟨congrArg Value.bool (decide_eq_decide.2 (by unfold yZ;omega)),a⟩
 refine zv rfl (zv rfl (zv rfl (ze rfl rfl (za rfl (zz (b ?_))))));refine zr (zr1 rfl rfl ?_);refine ⟨?_,a⟩;rw[decide_eq_false (by unfold yZ;omega)]
structure SP where
  na:Nat
  up:Nat
  dn:Nat
  mi:Nat
  pl:Nat
  al:Nat
def SP.cells(s:SP):List Value:=[.int .i64 (s.na:Int),.int .i64 (s.up:Int),.int .i64 (s.dn:Int),.int .i64 (s.mi:Int),.int .i64 (s.pl:Int),.int .i64 (s.al:Int)]
def SP.le(s:SP)(n:Nat):Prop:=s.na<=n/\s.up<=n/\s.dn<=n/\s.mi<=n/\s.pl<=n/\s.al<=n
def SP.zero:SP:=⟨0,0,0,0,0,0⟩
def countP(s:SP)(k:Nat):SP:=
  ⟨s.na+(if k=5 then 1 else 0),s.up+(if k=3 then 1 else 0),s.dn+(if k=4 then 1 else 0),s.mi+(if k=1 then 1 else 0),s.pl+(if k=2 then 1 else 0),s.al+1⟩
theorem countP.le{s:SP}{k n:Nat}(h:s.le n):(countP s k).le (n+1):=by
  obtain ⟨a,b,c,d,e,f⟩:=h
  refine ⟨?_,?_,?_,?_,?_,?_⟩<;>(simp only[countP];try split)<;>omega
def cZ(s:SP):Prop:=s.na+s.up+s.dn+s.mi+s.pl<=s.al/\s.al<=1099511627776
instance (s:SP):Decidable (cZ s):=by unfold cZ;exact inferInstance
def SP.d1j(s:SP):List Nat:=[s.na,s.up,s.dn,s.mi,s.pl]
theorem take_sum{l:List Nat}: ∀ {i:Nat},i<l.length->(l.take (i+1)).sum=(l.take i).sum+l.getD i 0:=by
  induction l with
  | nil=>intro i h;simp at h
  | cons a l ih=>
    intro i h
    cases i with
    | zero=>simp
    | succ i=>
      have:=ih (i:=i) (by simpa using h)
      simp only[List.take_succ_cons,List.sum_cons,this,List.getD_cons_succ];omega
theorem five_le(s:SP)(i:Nat):s.d1j.getD i 0<=s.na+s.up+s.dn+s.mi+s.pl:=by
  unfold SP.d1j
  match i with
  | 0=>simp;omega
  | 1=>simp;omega
  | 2=>simp;omega
  | 3=>simp;omega
  | 4=>simp
  | n+5=>simp
theorem five_sum(s:SP):(s.d1j.take 5).sum=s.na+s.up+s.dn+s.mi+s.pl:=by
  simp[SP.d1j];omega
theorem count_spec(b k:Nat)(s:SP)(w:World)(e:BK w b 85 s.cells)(hs:s.le 1000000000000000):Ret Tryz.prog 131 [.pointer (some ⟨b,0,none⟩),.int .i64 (k:Int)] w λu w'=>BK w' b 85 (countP s k).cells/\Chg [b] w w':=by
 obtain ⟨a4,a3,a2,a1,a0,Z⟩:=hs;unfold SP.cells at e;have a:Chg [b] w w:=Chg.refl _ _;refine zE2 Tryz.func131 rfl ?_;refine Sr λ_ B=>zm rfl (zP rfl (zf rfl (zl e rfl rfl ?_)));(first|refine zi rfl rfl ?_|refine zo rfl rfl ?_);refine zP rfl (zf rfl ?_);refine WL.bJ rfl rfl o1 e oS rfl λR d v=>?_;(try simp only[qt] at d);have a:=a.s1 v;have e:=d;refine zz (B (Sr λ_ A=>zm rfl (zz (A (CW.block (Sr λ_ z=>zq rfl rfl (za rfl (zz (z ?_)))))))));refine zy rfl ?_ ?_<;>intro H<;>try simp only[qs] at H
 ·refine zS λ_ x=>zm rfl (zP rfl (zf rfl (zl e rfl rfl ?_)));(first|refine zi rfl rfl ?_|refine zo rfl rfl ?_);refine zP rfl (zf rfl ?_);refine WL.bJ rfl rfl o1 e oS rfl λQ d l=>?_
  (try simp only[qt] at d);have a:=a.s1 l
  have e:=d;refine zz (x ?_);refine k9.c1x rfl ?_;refine ⟨?_,a⟩;have f:k=5:=by omega
  subst f
  simpa[SP.cells,countP] using e
 refine Sr λ_ y=>zq rfl rfl (za rfl (zz (y ?_)));refine zy rfl ?_ ?_<;>intro G<;>try simp only[qs] at G
 ·refine zS λ_ p=>zm rfl (zP rfl (zf rfl (zl e rfl rfl ?_)));(first|refine zi rfl rfl ?_|refine zo rfl rfl ?_);refine zP rfl (zf rfl ?_);refine WL.bJ rfl rfl o1 e oS rfl λO d j=>?_
  (try simp only[qt] at d);have a:=a.s1 j
  have e:=d;refine zz (p ?_);refine k9.c1x rfl ?_;refine ⟨?_,a⟩;have f:k=3:=by omega
  subst f
  simpa[SP.cells,countP] using e
 refine Sr λ_ t=>zq rfl rfl (za rfl (zz (t ?_)));refine zy rfl ?_ ?_<;>intro F<;>try simp only[qs] at F
 ·refine zS λ_ o=>zm rfl (zP rfl (zf rfl (zl e rfl rfl ?_)));(first|refine zi rfl rfl ?_|refine zo rfl rfl ?_);refine zP rfl (zf rfl ?_);refine WL.bJ rfl rfl o1 e oS rfl λM d i=>?_
  (try simp only[qt] at d);have a:=a.s1 i
  have e:=d;refine zz (o ?_);refine k9.c1x rfl ?_;refine ⟨?_,a⟩;have f:k=4:=by omega
  subst f
  simpa[SP.cells,countP] using e
 refine Sr λ_ r=>zq rfl rfl (za rfl (zz (r ?_)));refine zy rfl ?_ ?_<;>intro D<;>try simp only[qs] at D
 ·refine zS λ_ n=>zm rfl (zP rfl (zf rfl (zl e rfl rfl ?_)));(first|refine zi rfl rfl ?_|refine zo rfl rfl ?_);refine zP rfl (zf rfl ?_);refine WL.bJ rfl rfl o1 e oS rfl λJ d h=>?_
  (try simp only[qt] at d);have a:=a.s1 h
  have e:=d;refine zz (n ?_);refine k9.c1x rfl ?_;refine ⟨?_,a⟩;have f:k=1:=by omega
  subst f
  simpa[SP.cells,countP] using e
 refine Sr λ_ q=>zq rfl rfl (za rfl (zz (q ?_)));refine zy rfl ?_ ?_<;>intro C<;>try simp only[qs] at C
 ·refine zS λ_ m=>zm rfl (zP rfl (zf rfl (zl e rfl rfl ?_)));(first|refine zi rfl rfl ?_|refine zo rfl rfl ?_);refine zP rfl (zf rfl ?_);refine WL.bJ rfl rfl o1 e oS rfl λI d g=>?_
  (try simp only[qt] at d);have a:=a.s1 g
  have e:=d;refine zz (m ?_);refine k9.c1x rfl ?_;refine ⟨?_,a⟩;have f:k=2:=by omega
  subst f
  simpa[SP.cells,countP] using e
 refine zkk ?_;refine k9.c1x rfl ?_;refine ⟨?_,a⟩;have Y : ¬k=5:=by omega
 have X : ¬k=3:=by omega
 have V : ¬k=4:=by omega
 have U : ¬k=1:=by omega
 have T : ¬k=2:=by omega
 simpa[SP.cells,countP,Y,X,V,U,T] using e
def KMb(s:SP)(b:Nat)(w0:World)(g:Nat×Nat)(w:World):Prop:=g.1<=5/\g.2=(s.d1j.take g.1).sum/\g.2<=g.1*1099511627776/\BK w b 85 s.cells/\Chg [] w0 w
theorem doj(s:SP)(w:World)(Z:s.le 1000000000000000):Ret Tryz.prog 137 [.agg [.int .i64 (s.na:Int),.int .i64 (s.up:Int),.int .i64 (s.dn:Int),.int .i64 (s.mi:Int),.int .i64 (s.pl:Int),.int .i64 (s.al:Int)].toArray] w λu w'=>u = .bool (decide (cZ s))/\Chg [] w w':=by
  obtain ⟨Y,X,V,U,T,R⟩:=Z;have b:=crf w;refine zE1 Tryz.func137 rfl ?_;refine Sr λ_ A=>?_;refine zBh rfl rfl rfl b λO Q a M J r b=>?_;refine za rfl (zz (A (Sr λ_ z=>za rfl (zz (z (zc λ_ y=>Sr λ_ x=>zf rfl (zl a rfl rfl (zf rfl (zl a rfl rfl (zf rfl (zl a rfl rfl (zf rfl (zl a rfl rfl (zf rfl (zl a rfl rfl ?_)))))))))))))));refine WL.ev (Ev.buildA (vs:=_) (cs:=[_,_,_,_,_]) rfl rfl) rfl ?_;refine zm rfl (zz (x (CW.block ?_)));refine CW.loop (S:=λg:Nat×Nat=>[(1,.pointer (some ⟨O,0,none⟩)),(2,.bool false),(3,.int .i64 (g.2:Int)),(16,.agg (s.d1j.map λn:Nat=>Value.int .i64 (n:Int)).toArray),(17,.int .i64 (g.1:Int))]) (Inv:=KMb s O w) (mu:=λg=>5-g.1) ((0,0)) ?_ ?_ ?_
  · exact ⟨by omega,rfl,by omega,a,b⟩
  · exact SLp
  rintro ⟨i,m⟩ wr ⟨D,C,B,a,b⟩;dsimp only at D C B a b;unfold SP.cells at a;have a0:=five_le s i;refine Sr λ_ t=>zL rfl rfl (zz (t (zc λ_ q=>?_)));refine zy rfl ?_ ?_<;>intro I<;>try simp only[qs] at I
  · refine zkk (q (zc λ_ p=>CW.block (Sr λ_ o=>?_)));refine WL.ev (Ev.indexAr (i:=i) (v:=.int .i64 ((s.d1j.getD i 0:Nat):Int)) rfl rfl oO rfl ?_) rfl ?_
    · have:i<s.d1j.length:=by show i<5;omega
      rw[List.getElem?_map,List.getD_eq_getElem?_getD,List.getElem?_eq_getElem this];rfl
    refine za rfl (zz (o (zc λ_ l=>?_)));refine CW.oX 25 (decide (1099511627776<s.d1j.getD i 0)) ?_ ?_
    · refine zS λ_ e=>zm rfl (zL rfl rfl (zm rfl ?_));refine zb ?_ ?_<;>intro G<;>try simp only[qs] at G
      · refine zv rfl (zv rfl (zt rfl rfl (zz (e ?_))));refine ⟨rfl,rfl,j0.g8 rfl ?_ ?_⟩
        · first|(simp;omega)|(refine decide_eq_decide.2 ?_;omega)
        exact SMg
      refine zw rfl (zm rfl (zw rfl (zG rfl rfl (ze rfl rfl (zz (e ?_))))));refine ⟨rfl,rfl,j0.g8 rfl ?_ ?_⟩
      · first|(simp;omega)|(refine decide_eq_decide.2 ?_;omega)
      exact SMg
    refine zy rfl ?_ ?_<;>intro H<;>try simp only[qs] at H
    · refine Sr λ_ k=>za rfl (zz (k ?_));refine zr (zr1 rfl rfl ?_);refine ⟨?_,b⟩;rw[decide_eq_false (by unfold cZ;omega)]
    refine zkk (l ?_);refine zR λ_ j=>?_;refine zm rfl (zm rfl ?_);(first|refine zi rfl rfl ?_|refine zo rfl rfl ?_);refine za rfl ?_;refine WL.nil (j _ _ _ (p ?_));refine zS λ_ h=>?_;(first|refine zi rfl rfl ?_|refine zo rfl rfl ?_);refine zm rfl (zz (h ?_));refine ⟨rfl,(i+1,m+s.d1j.getD i 0),?_,?_,?_⟩
    · exact SLp
    · exact ⟨by omega,by dsimp only;rw[C];exact (take_sum (by show i<5;omega)).symm,by dsimp only;omega,a,b⟩
    show 5-(i+1)<5-i;omega
  refine CW.exit ?_;refine y (zc λ_ f=>?_);have h5:i=5:=by omega
  subst h5;rw[five_sum] at C;refine zR λ_ d=>?_;refine zm rfl (zf rfl (zl a rfl rfl (zQ rfl rfl (zm rfl ?_))));refine zb ?_ ?_<;>intro F<;>try simp only[qs] at F
  · refine zw rfl (zf rfl (zw rfl (zl a rfl rfl (zw rfl (zQ rfl rfl (zt rfl rfl (za rfl ?_)))))));refine WL.nil (d _ _ _ (f ?_));refine zr (zr1 rfl rfl ?_);refine ⟨congrArg Value.bool (decide_eq_decide.2 (by unfold cZ;omega)),b⟩
  refine zv rfl (zv rfl (zv rfl (ze rfl rfl (za rfl ?_))));refine WL.nil (d _ _ _ (f ?_));refine zr (zr1 rfl rfl ?_);refine ⟨?_,b⟩;rw[decide_eq_false (by unfold cZ;omega)]
theorem Inf_spec(n:Int)(w:World):Ret Tryz.prog 138 [.int .i64 n] w λu w'=>u = .float .f64 (if 0<=n then 9218868437227405312 else 18442240474082181120)/\w=w':=by
 refine zE1 Tryz.func138 rfl ?_;refine Sr λ_ i=>za rfl (zz (i (Sr λ_ h=>za rfl (zz (h (zc λ_ b=>Sr λ_ g=>zm rfl ?_))))));refine WL.ev (Ev.geq rfl rfl) rfl ?_;refine zz (g ?_);refine zy rfl ?_ ?_<;>intro j<;>try simp only[qs] at j
 ·refine zR λ_ e=>?_
  refine za rfl ?_;refine WL.nil (e _ _ _ (b ?_));refine Sr λ_ f=>zm rfl ?_;refine WL.ev (Ev.ext rfl (ext82 _ _)) rfl ?_;refine za rfl (zz (f ?_));refine zr (zr1 rfl rfl ?_);rw[if_pos oO];exact ⟨rfl,rfl⟩
 refine zR λ_ a=>?_;refine za rfl ?_;refine WL.nil (a _ _ _ (b ?_));refine Sr λ_ d=>zm rfl ?_;refine WL.ev (Ev.ext rfl (ext82 _ _)) rfl ?_;refine za rfl (zz (d ?_));refine zr (zr1 rfl rfl ?_);rw[if_neg oO];exact ⟨rfl,rfl⟩
theorem cdq(w:World):Ret Tryz.prog 140 [.float .f64 0,.float .f64 13830554455654793216] w λu w'=>u = .float .f64 9223372036854775808/\w=w':=by
 refine zE2 Tryz.func140 rfl ?_;refine Sr λ_ e=>za rfl (zz (e (Sr λ_ d=>zm rfl ?_)));refine WL.ev (Ev.ext rfl (ext48 _ _)) rfl ?_;refine WL.ev (Ev.andNotU (a:=0) (b:=9223372036854775808) rfl rfl rfl oD oD) rfl ?_;rw[show 0&&& (2^IntKind.u64.bits-1-9223372036854775808)=0 from Nat.zero_and _];refine zm rfl ?_;refine WL.ev (Ev.ext rfl (ext48 _ _)) rfl ?_;refine WL.ev (Ev.andU (a:=13830554455654793216) (b:=9223372036854775808) rfl rfl rfl oD oD) rfl ?_;rw[show 13830554455654793216&&& 9223372036854775808=9223372036854775808 from by decide];refine WL.ev (Ev.orU (a:=0) (b:=9223372036854775808) rfl rfl rfl oD oD) rfl ?_;rw[show 0||| 9223372036854775808=9223372036854775808 from by decide];refine WL.ev (Ev.ext rfl (ext82 _ _)) rfl ?_;refine za rfl (zz (d ?_));refine zr (zr1 rfl rfl ?_);exact ⟨rfl,rfl⟩
theorem NaN_spec(w:World):Ret Tryz.prog 77 [] w λu w'=>u = .float .f64 9221120237041090560/\w=w':=by
 refine zE0 Tryz.func77 rfl ?_;refine Sr λ_ b=>za rfl (zz (b (Sr λ_ a=>?_)));refine WL.ev (Ev.ext rfl (ext82 _ _)) rfl ?_;refine za rfl (zz (a ?_));refine zr (zr1 rfl rfl ?_);exact ⟨rfl,rfl⟩
theorem Plain_spec(w:World):Ret Tryz.prog 69 [] w λu w'=>u = .agg [.int .i64 0,.int .i64 0].toArray/\Chg [] w w':=by
 have a:=crf w;refine zE0 Tryz.func69 rfl ?_;refine Sr λ_ j=>?_;refine WL.iZ (l:=[.int .i64 0,.int .i64 0]) rfl rfl λn m e h g=>?_;have f:=Nat.le_trans a.size g;have a:=a.ta h;refine zz (j (Sr λ_ i=>?_));refine WL.ev (Ev.build (vs:=_) (cs:=[_,_]) rfl rfl) rfl ?_;refine zss rfl rfl ao e rfl λk b d=>?_;(try simp only[qt] at b);have a:=a.s1 d;have e:=b;refine zz (i ?_);refine zr (k9.qJ rfl (aZ.cell rfl (e.fJ rfl rfl)) ?_);exact ⟨rfl,a⟩
def lZ(s:SP)(pn pi:Int):Option Nat:=
  if ¬cZ s\/¬yZ pn pi then none else if (0<s.na/\pn=0)\/(0<s.up/\0<s.dn/\pi=0) then some 9221120237041090560
  else if 0<s.up/\pi=0 then some 9218868437227405312 else if 0<s.dn/\pi=0 then some 18442240474082181120 else none
def adq(s:SP)(mode:Int):Nat:=
  if cZ s/\s.na+s.up+s.dn<s.al/\(s.mi+s.na+s.up+s.dn=s.al\/s.pl+s.na+s.up+s.dn<s.al/\mode=3) then 9223372036854775808 else 0
theorem cpq(s:SP)(g f:Int)(w:World)(hs:s.le 1000000000000000):Ret Tryz.prog 73 [.agg [.int .i64 (s.na:Int),.int .i64 (s.up:Int),.int .i64 (s.dn:Int),.int .i64 (s.mi:Int),.int .i64 (s.pl:Int),.int .i64 (s.al:Int)].toArray,.agg [.int .i64 g,.int .i64 f].toArray] w λu w'=>u = .tuple [.float .f64 ((lZ s g f).getD 0),.bool (lZ s g f).isSome].toArray/\Chg [] w w':=by
 have a6:=hs;obtain ⟨c6,c5,c4,c3,c2,c1⟩:=hs;have a:=crf w;refine zE2 Tryz.func73 rfl ?_;refine Sr λ_ a5=>?_;refine zBh rfl rfl rfl a λb2 b7 b b5 b4 O a=>?_;refine zBh rfl rfl rfl a λb3 b6 d R Q M a=>?_;have X:=zdd b.lt Q;have b:=b.k0 R;refine za rfl (za rfl (zz (a5 (zc λ_ a4=>?_))));refine CW.azx 15 (decide (¬cZ s\/¬yZ g f)) ?_ ?_
 ·intro e;refine zS λ_ B=>zg b rfl ?_;refine WL.call hasF137 rfl rfl (doj s _ a6) λv w1 m=>?_;obtain ⟨rfl,T⟩:=m;have e:=e.ta T;have d:=d.k0 T;refine zT rfl (zm rfl ?_);refine zb ?_ ?_<;>intro a9<;>try simp only[qs] at a9
  ·refine zv rfl (zv rfl (zv rfl (zt rfl rfl (zz (B ?_)))));refine ⟨rfl,e,j0.g8 rfl ?_ ?_⟩
   ·first|(simp_all;done)|(refine (decide_eq_true ?_).symm;simp_all;done)|(refine decide_eq_decide.2 ?_;simp_all;done)
   exact SMg
  refine zw rfl (zg d rfl (zw rfl ?_));refine WL.call hasF129 rfl rfl (dyx g f _) λv w2 m=>?_;obtain ⟨rfl,U⟩:=m;have e:=e.ta U;refine zw rfl (zT rfl (ze rfl rfl (zz (B ?_))));refine ⟨rfl,e,j0.g8 rfl ?_ ?_⟩
  ·first|(simp_all;done)|(refine (decide_eq_true ?_).symm;simp_all;done)|(refine decide_eq_decide.2 ?_;simp_all;done)
  exact SMg
 intro wM e;have a:=a.ta e;have b:=b.k0 e;have d:=d.k0 e;refine zy rfl ?_ ?_<;>intro z<;>try simp only[qs] at z
 ·have h : ¬cZ s\/¬yZ g f:=z
  refine Sr λ_ a3=>za rfl (za rfl (zz (a3 ?_)));refine zr (zr2 rfl rfl rfl ?_);refine ⟨?_,a⟩;unfold lZ;rw[if_pos h];rfl
 have h : ¬(¬cZ s\/¬yZ g f):=z;refine zkk (a4 ?_);refine CW.anj (λD A w'=>D=[]/\BK w' b2 85 s.cells/\BK w' b3 34 [.int .i64 g,.int .i64 f]/\Chg [] w w'/\j0 [(6,.bool (decide (0<s.up/\f=0))),(7,.bool (decide (0<s.dn/\f=0))),(2,.pointer (some ⟨b2,0,none⟩)),(3,.pointer (some ⟨b3,0,none⟩))] A) ?_ ?_
 ·refine CW.jQ dZ oR λb9 l t=>?_;have a:=a.ta t;have b:=b.k0 t;have d:=d.k0 t;refine yf rfl ?_;refine WS.ev (Ev.load rfl rfl (b.at_ rfl)) rfl ?_;refine WS.ev (Ev.gtr rfl rfl) rfl ?_;refine ym rfl ?_;refine WS.afq (λr=>?_) (λr=>?_)
  ·(try simp only[qs] at r);refine yw rfl (yf rfl (yw rfl ?_));refine WS.ev (Ev.load rfl rfl (d.at_ rfl)) rfl ?_
   refine yw rfl ?_;refine WS.ev (Ev.eql rfl rfl) rfl ?_;refine yt rfl rfl (yf rfl ?_);refine WS.ev (Ev.load rfl rfl (b.at_ rfl)) rfl ?_;refine WS.ev (Ev.gtr rfl rfl) rfl ?_;refine ym rfl ?_;refine WS.afq (λq=>?_) (λq=>?_)
   ·(try simp only[qs] at q);refine yw rfl (yf rfl (yw rfl ?_));refine WS.ev (Ev.load rfl rfl (d.at_ rfl)) rfl ?_
    refine yw rfl ?_;refine WS.ev (Ev.eql rfl rfl) rfl ?_;refine yt rfl rfl (ya rfl (ya rfl ?_));refine WS.nil (l _ _ ?_);refine ⟨rfl,b,d,a,j0.g8 rfl ?_ (j0.g8 rfl ?_ ?_)⟩
    · first|(simp_all;done)|(refine decide_eq_decide.2 ?_;omega)|(refine (decide_eq_true ?_).symm;omega)|(refine (decide_eq_false ?_).symm;omega)|(refine decide_eq_decide.2 ?_;simp_all;done)
    · first|(simp_all;done)|(refine decide_eq_decide.2 ?_;omega)|(refine (decide_eq_true ?_).symm;omega)|(refine (decide_eq_false ?_).symm;omega)|(refine decide_eq_decide.2 ?_;simp_all;done)
    (repeat (first|exact j0.nil|refine j0.cons rfl ?_))
   (try simp only[qs] at q);refine yv rfl (yv rfl (yv rfl (ye rfl rfl (ya rfl (ya rfl ?_)))));refine WS.nil (l _ _ ?_);refine ⟨rfl,b,d,a,j0.g8 rfl ?_ (j0.g8 rfl ?_ ?_)⟩
   · first|(simp_all;done)|(refine decide_eq_decide.2 ?_;omega)|(refine (decide_eq_true ?_).symm;omega)|(refine (decide_eq_false ?_).symm;omega)|(refine decide_eq_decide.2 ?_;simp_all;done)
   · first|(simp_all;done)|(refine decide_eq_decide.2 ?_;omega)|(refine (decide_eq_true ?_).symm;omega)|(refine (decide_eq_false ?_).symm;omega)|(refine decide_eq_decide.2 ?_;simp_all;done)
   (repeat (first|exact j0.nil|refine j0.cons rfl ?_))
  (try simp only[qs] at r);refine yv rfl (yv rfl (yv rfl (ye rfl rfl (yf rfl ?_))));refine WS.ev (Ev.load rfl rfl (b.at_ rfl)) rfl ?_
  refine WS.ev (Ev.gtr rfl rfl) rfl ?_;refine ym rfl ?_;refine WS.afq (λp=>?_) (λp=>?_)
  ·(try simp only[qs] at p);refine yw rfl (yf rfl (yw rfl ?_));refine WS.ev (Ev.load rfl rfl (d.at_ rfl)) rfl ?_
   refine yw rfl ?_;refine WS.ev (Ev.eql rfl rfl) rfl ?_;refine yt rfl rfl (ya rfl (ya rfl ?_));refine WS.nil (l _ _ ?_);refine ⟨rfl,b,d,a,j0.g8 rfl ?_ (j0.g8 rfl ?_ ?_)⟩
   · first|(simp_all;done)|(refine decide_eq_decide.2 ?_;omega)|(refine (decide_eq_true ?_).symm;omega)|(refine (decide_eq_false ?_).symm;omega)|(refine decide_eq_decide.2 ?_;simp_all;done)
   · first|(simp_all;done)|(refine decide_eq_decide.2 ?_;omega)|(refine (decide_eq_true ?_).symm;omega)|(refine (decide_eq_false ?_).symm;omega)|(refine decide_eq_decide.2 ?_;simp_all;done)
   (repeat (first|exact j0.nil|refine j0.cons rfl ?_))
  (try simp only[qs] at p);refine yv rfl (yv rfl (yv rfl (ye rfl rfl (ya rfl (ya rfl ?_)))));refine WS.nil (l _ _ ?_);refine ⟨rfl,b,d,a,j0.g8 rfl ?_ (j0.g8 rfl ?_ ?_)⟩
  · first|(simp_all;done)|(refine decide_eq_decide.2 ?_;omega)|(refine (decide_eq_true ?_).symm;omega)|(refine (decide_eq_false ?_).symm;omega)|(refine decide_eq_decide.2 ?_;simp_all;done)
  · first|(simp_all;done)|(refine decide_eq_decide.2 ?_;omega)|(refine (decide_eq_true ?_).symm;omega)|(refine (decide_eq_false ?_).symm;omega)|(refine decide_eq_decide.2 ?_;simp_all;done)
  (repeat (first|exact j0.nil|refine j0.cons rfl ?_))
 rintro _ A wJ ⟨rfl,b,d,a,i⟩;refine CW.sub i ?_;refine zc λ_ a2=>CW.block ?_;refine CW.anj (λD A w'=>D=[]/\BK w' b2 85 s.cells/\BK w' b3 34 [.int .i64 g,.int .i64 f]/\Chg [] w w'/\j0 [(32,.bool (decide ((0<s.na/\g=0)\/(0<s.up/\0<s.dn/\f=0)))),(6,.bool (decide (0<s.up/\f=0))),(7,.bool (decide (0<s.dn/\f=0))),(2,.pointer (some ⟨b2,0,none⟩)),(3,.pointer (some ⟨b3,0,none⟩))] A) ?_ ?_
 ·refine CW.oX 32 (decide (0<s.na/\g=0)) ?_ ?_
  ·refine zS λ_ o=>zf rfl (zl b rfl rfl (zG rfl rfl (zm rfl ?_)));refine zb ?_ ?_<;>intro a8<;>try simp only[qs] at a8
   ·refine zw rfl (zf rfl (zw rfl (zl d rfl rfl (zw rfl (zq rfl rfl (zt rfl rfl (za rfl (zz (o ?_)))))))));refine ⟨rfl,rfl,j0.g8 rfl ?_ ?_⟩
    ·first|(simp_all;done)|(refine decide_eq_decide.2 ?_;omega)|(refine (decide_eq_true ?_).symm;omega)|(refine (decide_eq_false ?_).symm;omega)|(refine decide_eq_decide.2 ?_;simp_all;done)
    exact SMg
   refine zv rfl (zv rfl (zv rfl (ze rfl rfl (za rfl (zz (o ?_))))));refine ⟨rfl,rfl,j0.g8 rfl ?_ ?_⟩
   ·first|(simp_all;done)|(refine decide_eq_decide.2 ?_;omega)|(refine (decide_eq_true ?_).symm;omega)|(refine (decide_eq_false ?_).symm;omega)|(refine decide_eq_decide.2 ?_;simp_all;done)
   exact SMg
  refine zy rfl ?_ ?_<;>intro y<;>try simp only[qs] at y
  ·have Z:0<s.na/\g=0:=y
   refine zkk ?_;refine ⟨rfl,b,d,a,j0.g8 rfl ?_ ?_⟩
   · first|exact (decide_eq_true (.inl Z)).symm|(simp_all;done)|(refine decide_eq_decide.2 ?_;omega)|(refine (decide_eq_true ?_).symm;omega)|(refine (decide_eq_false ?_).symm;omega)
   (repeat (first|exact j0.nil|refine j0.cons rfl ?_))
  have Z : ¬(0<s.na/\g=0):=y;refine zS λ_ n=>zm rfl (zm rfl ?_);refine zb ?_ ?_<;>intro a7<;>try simp only[qs] at a7
  ·refine zw rfl (zm rfl (zt rfl rfl (za rfl (zz (n ?_)))));refine ⟨rfl,b,d,a,j0.g8 rfl ?_ ?_⟩
   · first|exact (decide_eq_true (.inl Z)).symm|(simp_all;done)|(refine decide_eq_decide.2 ?_;omega)|(refine (decide_eq_true ?_).symm;omega)|(refine (decide_eq_false ?_).symm;omega)
   (repeat (first|exact j0.nil|refine j0.cons rfl ?_))
  refine zv rfl (ze rfl rfl (za rfl (zz (n ?_))));refine ⟨rfl,b,d,a,j0.g8 rfl ?_ ?_⟩
  · first|exact (decide_eq_true (.inl Z)).symm|(simp_all;done)|(refine decide_eq_decide.2 ?_;omega)|(refine (decide_eq_true ?_).symm;omega)|(refine (decide_eq_false ?_).symm;omega)
  (repeat (first|exact j0.nil|refine j0.cons rfl ?_))
 rintro _ A wJ ⟨rfl,b,d,a,i⟩;refine CW.sub i ?_;refine zy rfl ?_ ?_<;>intro x<;>try simp only[qs] at x
 ·have V:(0<s.na/\g=0)\/(0<s.up/\0<s.dn/\f=0):=x
  refine Sr λ_ J=>?_;refine WL.call hasF77 rfl rfl (NaN_spec _) λv w3 m=>?_;obtain ⟨rfl,rfl⟩:=m;refine za rfl (za rfl (zz (J ?_)));refine zr (zr2 rfl rfl rfl ?_);refine ⟨?_,a⟩;unfold lZ;rw[if_neg h,if_pos V];rfl
 have V : ¬((0<s.na/\g=0)\/(0<s.up/\0<s.dn/\f=0)):=x;refine Sr λ_ I=>zm rfl (za rfl (zz (I ?_)));refine zy rfl ?_ ?_<;>intro k<;>try simp only[qs] at k
 ·have Y:0<s.up/\f=0:=k
  refine Sr λ_ H=>?_;refine WL.call hasF138 rfl rfl (Inf_spec 1 _) λv w4 m=>?_;obtain ⟨rfl,rfl⟩:=m;refine za rfl (za rfl (zz (H ?_)));refine zr (zr2 rfl rfl rfl ?_);refine ⟨?_,a⟩;unfold lZ;rw[if_neg h,if_neg V,if_pos Y];rfl
 have Y : ¬(0<s.up/\f=0):=k;refine Sr λ_ G=>zm rfl (za rfl (zz (G ?_)));refine zy rfl ?_ ?_<;>intro j<;>try simp only[qs] at j
 ·have h4:0<s.dn/\f=0:=j
  refine Sr λ_ F=>?_;refine WL.call hasF138 rfl rfl (Inf_spec (-1) _) λv w5 m=>?_;obtain ⟨rfl,rfl⟩:=m;refine za rfl (za rfl (zz (F ?_)));refine zr (zr2 rfl rfl rfl ?_);refine ⟨?_,a⟩;unfold lZ;rw[if_neg h,if_neg V,if_neg Y,if_pos h4];rfl
 have h4 : ¬(0<s.dn/\f=0):=j;refine zkk (a2 (Sr λ_ C=>za rfl (za rfl (zz (C ?_)))));refine zr (zr2 rfl rfl rfl ?_);refine ⟨?_,a⟩;unfold lZ;rw[if_neg h,if_neg V,if_neg Y,if_neg h4];rfl
theorem b3j(s:SP)(mode:Int)(w:World)(H:s.le 1000000000000000):Ret Tryz.prog 75 [.agg [.int .i64 (s.na:Int),.int .i64 (s.up:Int),.int .i64 (s.dn:Int),.int .i64 (s.mi:Int),.int .i64 (s.pl:Int),.int .i64 (s.al:Int)].toArray,.int .i64 mode] w λu w'=>u = .float .f64 (adq s mode)/\Chg [] w w':=by
 have B:=H;obtain ⟨V,U,T,R,Q,O⟩:=H;have d:=crf w;refine zE2 Tryz.func75 rfl ?_;refine Sr λ_ A=>?_;refine zBh rfl rfl rfl d λb2 M e J I t d=>?_;refine za rfl (zz (A (Sr λ_ z=>zf rfl (zl e rfl rfl (zf rfl (zl e rfl rfl ?_))))))
 first|refine WL.ev (Ev.dX rfl rfl oO) rfl ?_|refine WL.ev (Ev.sub rfl rfl) rfl ?_
 refine zf rfl (zl e rfl rfl ?_)
 first|refine WL.ev (Ev.dX rfl rfl oO) rfl ?_|refine WL.ev (Ev.sub rfl rfl) rfl ?_
 refine zf rfl (zl e rfl rfl ?_)
 first|refine WL.ev (Ev.dX rfl rfl oO) rfl ?_|refine WL.ev (Ev.sub rfl rfl) rfl ?_
 refine za rfl (zz (z (zc λ_ i=>Sr λ_ h=>zg e rfl ?_)));refine WL.call hasF137 rfl rfl (doj s _ B) λv Z x=>?_;obtain ⟨rfl,j⟩:=x;have d:=d.ta j;have e:=e.k0 j;refine zm rfl ?_;refine zb ?_ ?_<;>intro k<;>try simp only[qs] at k
 ·have a:cZ s:=k
  refine zw rfl (zm rfl (zw rfl (zG rfl rfl (zt rfl rfl (zm rfl ?_)))));refine zb ?_ ?_<;>intro F<;>try simp only[qs] at F
  ·refine zw rfl (zf rfl (zw rfl (zl e rfl rfl (zw rfl (zm rfl (zw rfl (zq rfl rfl (zw rfl (zm rfl ?_)))))))));refine zb ?_ ?_<;>intro D<;>try simp only[qs] at D
   ·refine zv rfl (zv rfl (zv rfl (zv rfl (zv rfl (zu rfl (zu rfl (zv rfl (zw rfl (zt rfl rfl (zt rfl rfl (zz (h ?_))))))))))));refine CW.nJ rfl ?_
    refine Sr λ_ y=>?_;refine WL.call hasF140 rfl rfl (cdq _) λv Y x=>?_;obtain ⟨rfl,rfl⟩:=x;refine za rfl (zz (y ?_));refine zr (zr1 rfl rfl ?_);refine ⟨?_,d⟩;unfold adq
    first|(have b : ¬cZ s:=a;rw[if_neg (λq=>b q.1)];done)|((have b:cZ s:=a);(have f:s.na+s.up+s.dn<s.al:=by omega);(have g:s.mi+s.na+s.up+s.dn=s.al\/s.pl+s.na+s.up+s.dn<s.al/\mode=3:=by (first|exact .inl oO|exact .inr ⟨by omega,by omega⟩));rw[if_pos ⟨b,f,g⟩];done)|(rw[if_neg (λq=>by have l:=q.2;omega)];done)
   refine zw rfl (zf rfl (zw rfl (zl e rfl rfl (zw rfl (zm rfl (zw rfl (zL rfl rfl (zw rfl (zm rfl ?_)))))))));refine zb ?_ ?_<;>intro C<;>try simp only[qs] at C
   ·refine zw rfl (zm rfl (zw rfl (zq rfl rfl (zw rfl (zt rfl rfl (zw rfl (ze rfl rfl (zt rfl rfl (zz (h ?_))))))))));refine zy rfl ?_ ?_<;>intro G<;>try simp only[qs] at G
    ·refine Sr λ_ r=>?_
     refine WL.call hasF140 rfl rfl (cdq _) λv X x=>?_;obtain ⟨rfl,rfl⟩:=x;refine za rfl (zz (r ?_));refine zr (zr1 rfl rfl ?_);refine ⟨?_,d⟩;unfold adq
     first|(have b : ¬cZ s:=a;rw[if_neg (λq=>b q.1)];done)|((have b:cZ s:=a);(have f:s.na+s.up+s.dn<s.al:=by omega);(have g:s.mi+s.na+s.up+s.dn=s.al\/s.pl+s.na+s.up+s.dn<s.al/\mode=3:=by (first|exact .inl oO|exact .inr ⟨by omega,by omega⟩));rw[if_pos ⟨b,f,g⟩];done)|(rw[if_neg (λq=>by have l:=q.2;omega)];done)
    refine zkk (i (Sr λ_ p=>za rfl (zz (p ?_))));refine zr (zr1 rfl rfl ?_);refine ⟨?_,d⟩;unfold adq
    first|(have b : ¬cZ s:=a;rw[if_neg (λq=>b q.1)];done)|((have b:cZ s:=a);(have f:s.na+s.up+s.dn<s.al:=by omega);(have g:s.mi+s.na+s.up+s.dn=s.al\/s.pl+s.na+s.up+s.dn<s.al/\mode=3:=by (first|exact .inl oO|exact .inr ⟨by omega,by omega⟩));rw[if_pos ⟨b,f,g⟩];done)|(rw[if_neg (λq=>by have l:=q.2;omega)];done)
   refine zv rfl (zv rfl (zw rfl (ze rfl rfl (zw rfl (ze rfl rfl (zt rfl rfl (zz (h ?_))))))));refine CW.mQ rfl ?_;refine zkk (i (Sr λ_ o=>za rfl (zz (o ?_))));refine zr (zr1 rfl rfl ?_);refine ⟨?_,d⟩;unfold adq
   first|(have b : ¬cZ s:=a;rw[if_neg (λq=>b q.1)];done)|((have b:cZ s:=a);(have f:s.na+s.up+s.dn<s.al:=by omega);(have g:s.mi+s.na+s.up+s.dn=s.al\/s.pl+s.na+s.up+s.dn<s.al/\mode=3:=by (first|exact .inl oO|exact .inr ⟨by omega,by omega⟩));rw[if_pos ⟨b,f,g⟩];done)|(rw[if_neg (λq=>by have l:=q.2;omega)];done)
  refine zv rfl (zv rfl (zv rfl (zv rfl (zv rfl (zu rfl (zu rfl (zu rfl (zu rfl (zu rfl (zu rfl (zu rfl (zu rfl (zv rfl (ze rfl rfl (zz (h ?_))))))))))))))));refine CW.mQ rfl ?_;refine zkk (i (Sr λ_ n=>za rfl (zz (n ?_))));refine zr (zr1 rfl rfl ?_);refine ⟨?_,d⟩;unfold adq
  first|(have b : ¬cZ s:=a;rw[if_neg (λq=>b q.1)];done)|((have b:cZ s:=a);(have f:s.na+s.up+s.dn<s.al:=by omega);(have g:s.mi+s.na+s.up+s.dn=s.al\/s.pl+s.na+s.up+s.dn<s.al/\mode=3:=by (first|exact .inl oO|exact .inr ⟨by omega,by omega⟩));rw[if_pos ⟨b,f,g⟩];done)|(rw[if_neg (λq=>by have l:=q.2;omega)];done)
 have a : ¬cZ s:=k;refine zv rfl (zv rfl (ze rfl rfl (zm rfl (zv rfl (zv rfl (zv rfl (zv rfl (zv rfl (zu rfl (zu rfl (zu rfl (zu rfl (zu rfl (zu rfl (zu rfl (zu rfl (zv rfl (ze rfl rfl (zz (h ?_))))))))))))))))))));refine CW.mQ rfl ?_;refine zkk (i (Sr λ_ m=>za rfl (zz (m ?_))));refine zr (zr1 rfl rfl ?_);refine ⟨?_,d⟩;unfold adq
 first|(have b : ¬cZ s:=a;rw[if_neg (λq=>b q.1)];done)|((have b:cZ s:=a);(have f:s.na+s.up+s.dn<s.al:=by omega);(have g:s.mi+s.na+s.up+s.dn=s.al\/s.pl+s.na+s.up+s.dn<s.al/\mode=3:=by (first|exact .inl oO|exact .inr ⟨by omega,by omega⟩));rw[if_pos ⟨b,f,g⟩];done)|(rw[if_neg (λq=>by have l:=q.2;omega)];done)
structure NF(w:World)(v:Value)(l:List Nat):Prop where
  ex : ∃ a c,v = .slice a l.length c/\l.length<=c/\RW w a (l.map bkx)
  hw : ∀ x∈l,x<18446744073709551616
  len:l.length<=70368744177664
theorem NF.part{w:World}{a:Option Addr}{l:List Nat}{k c:Nat}(h:RW w a (l.map bkx))(b : ∀ x∈l.take k,x<18446744073709551616)(d:l.length<=70368744177664)(f:k<=l.length)(g:k<=c):NF w (.slice a k c) (l.take k):=by
  have e:(l.take k).length=k:=by rw[List.length_take];omega
  refine ⟨⟨a,c,by rw[e],by omega,?_⟩,b,by omega⟩
  rw[List.map_take]
  exact h.take k
theorem D_getD{l:List Nat}(h : ∀ x∈l,x<18446744073709551616)(i:Nat):l.getD i 0<18446744073709551616:=by
  rw[List.getD_eq_getElem?_getD]
  cases q:l[i]? with
  | none=>simp
  | some x=>exact h x (List.mem_of_getElem? q)
def finP(x:Nat):Bool:=decide (k8 x<=2)
def bjj(l:List Nat):List Nat:=l.filter finP
def a7q(l:List Nat):SP:=l.foldl (λs x=>countP s (k8 x)) SP.zero
def a2x(l:List Nat)(pn pi:Int):Int:=
  if ¬yZ pn pi then 1 else if 65536<l.length then 2 else if 0<(a7q l).na/\pn=2 then 60 else if 0<(a7q l).up+(a7q l).dn/\pi=2 then 61 else 0
theorem asq{l:List Nat}{i:Nat}(h:i<l.length):l.take (i+1)=l.take i++[l.getD i 0]:=by
  rw[List.take_add_one,List.getD_eq_getElem?_getD,List.getElem?_eq_getElem h];rfl
theorem cntP_step{l:List Nat}{i:Nat}(h:i<l.length):a7q (l.take (i+1))=countP (a7q (l.take i)) (k8 (l.getD i 0)):=by
  unfold a7q;rw[asq h,List.foldl_append];rfl
theorem cntP_le : ∀ (l:List Nat) (s:SP) (n:Nat),s.le n->(l.foldl (λs x=>countP s (k8 x)) s).le (n+l.length)
  | [],s,n,h=>h
  | x::l,s,n,h=>by
    have:=cntP_le l (countP s (k8 x)) (n+1) (countP.le h)
    simpa[Nat.add_assoc,Nat.add_comm 1] using this
theorem cnt_le(l:List Nat):(a7q l).le l.length:=by
  have:=cntP_le l SP.zero 0 (by refine ⟨?_,?_,?_,?_,?_,?_⟩<;>exact Nat.zero_le _)
  rw[Nat.zero_add] at this;exact this
theorem SP.le.mono{s:SP}{n m:Nat}(h:s.le n)(g:n<=m):s.le m:=by
  obtain ⟨a,b,c,d,e,f⟩:=h
  exact ⟨by omega,by omega,by omega,by omega,by omega,by omega⟩
theorem cwx{l:List Nat}{i:Nat}(h:i<l.length):bjj (l.take (i+1))=if k8 (l.getD i 0)<=2 then bjj (l.take i)++[l.getD i 0] else bjj (l.take i):=by
  unfold bjj
  rw[asq h,List.filter_append,List.filter_cons]
  simp only[finP,decide_eq_true_eq,List.filter_nil]
  split<;>simp
theorem filP_len(l:List Nat)(i:Nat):(bjj (l.take i)).length<=i:=by
  unfold bjj
  have:=List.length_filter_le finP (l.take i)
  rw[List.length_take] at this
  omega
theorem set_take{L:List Nat}{m v:Nat}(h:m<L.length):(L.set m v).take (m+1)=L.take m++[v]:=by
  rw[List.take_add_one,List.take_set_of_le (Nat.le_refl _),List.getElem?_set_self h];rfl
structure KSift(l:List Nat)(pn pi:Int)(w0:World)(b3 b5 b7 b23:Nat)(g:Nat×List Nat)(w:World):Prop where
  le:g.1<=l.length
  len:g.2.length=l.length
  tk:g.2.take (bjj (l.take g.1)).length=bjj (l.take g.1)
  h3:BK w b3 34 [.int .i64 pn,.int .i64 pi]
  h5:BK w b5 85 [.int .i64 0,.int .i64 0,.int .i64 0,.int .i64 0,.int .i64 0,.int .i64 0]
  h7:BK w b7 85 (a7q (l.take g.1)).cells
  hF:FB w b23 31 g.2
  ch:Chg [] w0 w
theorem Sift_spec(v:Value)(l:List Nat)(C D:Int)(w:World)(hv:NF w v l):Ret Tryz.prog 68 [v,.agg [.int .i64 C,.int .i64 D].toArray] w λu w'=>(a2x l C D≠0/\u = .tuple [.slice none 0 0,.agg SP.zero.cells.toArray,.int .i64 (a2x l C D)].toArray/\Chg [] w w')\/(a2x l C D=0/\∃ v2,NF w' v2 (bjj l)/\u = .tuple [v2,.agg (a7q l).cells.toArray,.int .i64 0].toArray/\Chg [] w w'):=by
 obtain ⟨⟨al,cl,rfl,g9,O⟩,e7,l5⟩:=hv;have a:=crf w;refine zE2 Tryz.func68 rfl ?_;refine Sr λ_ g0=>?_;refine zBh rfl rfl rfl a λb3 l0 f i4 i3 e3 a=>?_;refine za rfl ?_;refine WL.iZ (l:=[.int .i64 0,.int .i64 0,.int .i64 0,.int .i64 0,.int .i64 0,.int .i64 0]) rfl rfl λb5 k5 b Z Y=>?_;have e2:=Nat.le_trans a.size Y;have a:=a.ta Z;have f2:=zdd f.lt Y;have f:=f.k0 Z;refine za rfl (zz (g0 (Sr λ_ f9=>?_)));refine WL.iZ (l:=[.int .i64 0,.int .i64 0,.int .i64 0,.int .i64 0,.int .i64 0,.int .i64 0]) rfl rfl λb7 k4 d I G=>?_;have e1:=Nat.le_trans a.size G;have a:=a.ta I;have f1:=zdd f.lt G;have f:=f.k0 I;have f0:=zdd b.lt G;have b:=b.k0 I;refine zz (f9 (zc λ_ f8=>CW.block (Sr λ_ f7=>zg f rfl ?_)));refine WL.call hasF129 rfl rfl (dyx C D _) λv w1 h'=>?_;obtain ⟨rfl,A⟩:=h';have a:=a.ta A;have f:=f.k0 A;have b:=b.k0 A;have d:=d.k0 A;refine zT rfl (za rfl (zz (f7 ?_)));refine zy rfl ?_ ?_<;>intro a7<;>try simp only[qs] at a7
 ·have M : ¬yZ C D:=a7
  refine zc λ_ f6=>?_;refine CW.gJ 2 4 rfl dZ λl2 f5 R j=>?_;have a:=a.ta j;have b:=b.k0 j;have d:=d.k0 j;have o:=d;refine wk 0 rfl R (λ_ F=>Ev.rZ rfl rfl (o.q8 F) rfl) (wk 1 rfl R (eA rfl) ?_);refine WK.nZ 2 rfl oR oR rfl rfl rfl ao b oS rfl λh9 h a4=>?_;(try simp only[qt] at h);have a:=a.s1 a4;have b:=h;refine WK.after 3 rfl oR oR (Ev.assign rfl) rfl ?_;refine WK.done oR (f5 _ _ _ ?_);refine f6 ?_;refine zr (k9.ckq rfl (aZ.tmp rfl) (aZ.cell rfl (b.fJ rfl rfl)) (aZ.tmp rfl) ?_);exact .inl ⟨by unfold a2x;rw[if_pos M];decide,by unfold a2x;rw[if_pos M];rfl,a⟩
 have M : ¬¬yZ C D:=λq=>q a7;refine Sr λ_ d5=>zm rfl (zn rfl (zG rfl rfl (za rfl (zz (d5 ?_)))));refine zy rfl ?_ ?_<;>intro h2<;>try simp only[qs] at h2
 ·have hL:65536<l.length:=by omega
  refine zc λ_ d4=>?_;refine CW.gJ 2 4 rfl dZ λi2 b9 R j=>?_;have a:=a.ta j;have b:=b.k0 j;have d:=d.k0 j;have o:=d;refine wk 0 rfl R (λ_ F=>Ev.rZ rfl rfl (o.q8 F) rfl) (wk 1 rfl R (eA rfl) ?_);refine WK.nZ 2 rfl oR oR rfl rfl rfl ao b oS rfl λh8 h a3=>?_;(try simp only[qt] at h);have a:=a.s1 a3;have b:=h;refine WK.after 3 rfl oR oR (Ev.assign rfl) rfl ?_;refine WK.done oR (b9 _ _ _ ?_);refine d4 ?_;refine zr (k9.ckq rfl (aZ.tmp rfl) (aZ.cell rfl (b.fJ rfl rfl)) (aZ.tmp rfl) ?_);exact .inl ⟨by unfold a2x;rw[if_neg M,if_pos hL];decide,by unfold a2x;rw[if_neg M,if_pos hL];rfl,a⟩
 have hL : ¬65536<l.length:=by omega
 refine zkk (f8 (Sr λ_ d3=>zm rfl (zn rfl ?_)));refine WL.makeF (0) ((l).length) rfl rfl oO oO oO oO oO rfl λe9 i0 e s p=>?_;have b0:=Nat.le_trans a.size p;have a:=a.ta s;have e0:=zdd f.lt p;have f:=f.k0 s;have d9:=zdd b.lt p;have b:=b.k0 s;have d8:=zdd d.lt p;have d:=d.k0 s;refine za rfl (zz (d3 (zc λ_ d2=>Sr λ_ d1=>zm rfl (zn rfl (zm rfl (zz (d1 (CW.block ?_))))))));refine CW.loop (S:=λg:Nat×List Nat=>[(0,.slice al l.length cl),(3,.pointer (some ⟨b3,0,none⟩)),(4,.slice none 0 0),(5,.pointer (some ⟨b5,0,none⟩)),(6,.int .i64 0),(7,.pointer (some ⟨b7,0,none⟩)),(8,.slice (some ⟨e9,0,none⟩) (bjj (l.take g.1)).length l.length),(25,.int .i64 (l.length:Int)),(26,.int .i64 (g.1:Int))]) (Inv:=KSift l C D w b3 b5 b7 e9) (mu:=λg=>l.length-g.1) ((0,List.replicate l.length 0)) ?_ ?_ ?_
 ·exact ⟨Nat.zero_le _,by simp,by simp[bjj],f,b,d,e,a⟩
 ·exact SLp
 rintro ⟨i,L⟩ wr ⟨g2,a9,B,f,b,d,e,a⟩;dsimp only at g2 a9 B f b d e a;dsimp only;have g5:=filP_len l i;have d7:=D_getD e7 i;have J:=(cnt_le (l.take i)).mono (m:=65536) (by rw[List.length_take];omega);refine Sr λ_ d0=>zL rfl rfl (zz (d0 (zc λ_ c9=>?_)));refine zy rfl ?_ ?_<;>intro h1<;>try simp only[qs] at h1
 ·refine zkk (c9 (zc λ_ V=>CW.block (Sr λ_ c8=>zm rfl (za rfl (zz (c8 (Sr λ_ c7=>zm rfl (zm rfl ?_))))))));refine WL.ev (Ev.ixR (i) rfl rfl (O.q8 a) oO oO oT) rfl ?_
  refine WL.ev (Ev.load rfl rfl ((O.q8 a).f64 oF)) rfl ?_;refine WL.call hasF130 rfl rfl (kind_spec (l.getD i 0) _ d7) λv w2 h'=>?_;obtain ⟨rfl,t⟩:=h';have a:=a.ta t;have f:=f.k0 t;have b:=b.k0 t;have d:=d.k0 t;have e:=e.k0 t;refine za rfl (zz (c7 (Sr λ_ c6=>zm rfl ?_)));refine WL.call hasF131 rfl rfl (count_spec b7 (k8 (l.getD i 0)) (a7q (l.take i)) _ d (J.mono oD)) λv w3 h'=>?_;obtain ⟨e5,z⟩:=h';have a:=a.step z (λy hy=>by simp only[List.mem_singleton] at hy;subst hy;exact .inr oO);have f:=f.dJ z (by simp;try omega);have b:=b.dJ z (by simp;try omega);have e:=e.dJ z (by simp;try omega);have d:=e5;rw[<- cntP_step oO] at d;refine zz (c6 (Sr λ_ c5=>zm rfl (zQ rfl rfl (zz (c5 ?_)))));refine zy rfl ?_ ?_<;>intro h0<;>try simp only[qs] at h0
  ·have Q:k8 (l.getD i 0)<=2:=by omega
   refine zR λ_ b8=>?_;refine zm rfl (zm rfl (zm rfl ?_));refine WL.ev (Ev.ixR (i) rfl rfl (O.q8 a) oO oO oT) rfl ?_;refine WL.ev (Ev.load rfl rfl ((O.q8 a).f64 oF)) rfl ?_;refine WL.buildSlice (m:=1) (cs:=[bkx (l.getD i 0)]) oD oD rfl oR rfl λh4 f4 X=>?_;have n:=X.chg;have e6:BK f4 h4 31 [bkx (l.getD i 0)]:=X.at_;have a:=a.ta n;have f:=f.dJ n (by simp;try omega);have b:=b.dJ n (by simp;try omega);have d:=d.dJ n (by simp;try omega);have e:=e.dJ n (by simp;try omega);refine WL.appendF (v:=l.getD i 0) rfl rfl e (e6.at_ rfl) oO oO rfl λl1 a8 r=>?_;have a:=a.step r (λy hy=>by simp only[List.mem_singleton] at hy;subst hy;exact .inr oO);have f:=f.dJ r (by simp;try omega);have b:=b.dJ r (by simp;try omega);have d:=d.dJ r (by simp;try omega);have e:=a8;rw[show (bjj (l.take i)).length+1=(bjj (l.take (i+1))).length by rw[cwx oO,if_pos Q];simp];refine za rfl ?_;refine WL.nil (b8 _ _ _ (V ?_));refine zS λ_ b6=>?_;(first|refine zi rfl rfl ?_|refine zo rfl rfl ?_);refine zm rfl (zz (b6 ?_));refine ⟨rfl,(i+1,L.set (bjj (l.take i)).length (l.getD i 0)),?_,?_,?_⟩
   ·exact SLp
   ·exact ⟨by dsimp only;omega,by simpa using a9,by dsimp only;rw[cwx oO,if_pos Q,List.length_append];show List.take _ _=_;rw[show [l.getD i 0].length=1 from rfl,set_take oO,B],f,b,d,e,a⟩
   show l.length-(i+1)<l.length-i;omega
  have Q : ¬k8 (l.getD i 0)<=2:=by omega
  have e4:bjj (l.take (i+1))=bjj (l.take i):=by rw[cwx oO,if_neg Q]
  refine zkk (V (zS λ_ b4=>?_));(first|refine zi rfl rfl ?_|refine zo rfl rfl ?_);refine zm rfl (zz (b4 ?_));refine ⟨rfl,(i+1,L),?_,?_,?_⟩
  ·rw[<- e4];repeat (first|exact j0.nil|refine j0.cons rfl ?_|refine j0.consI rfl oO ?_)
  ·exact ⟨by dsimp only;omega,a9,by dsimp only;rw[e4];exact B,f,b,d,e,a⟩
  show l.length-(i+1)<l.length-i;omega
 have g1:i=l.length:=by omega
 subst g1;rw[List.take_length] at d J B g5;rw[List.take_length];unfold SP.cells at d;obtain ⟨k1,i9,i8,i7,i6,i5⟩:=J;refine CW.exit ?_;refine d2 (zc λ_ c4=>CW.block ?_);refine CW.oX 46 (decide (0<(a7q l).na/\C=2)) ?_ ?_
 ·refine zS λ_ U=>zf rfl (zl d rfl rfl (zG rfl rfl (zm rfl ?_)));refine zb ?_ ?_<;>intro g4<;>try simp only[qs] at g4
  ·refine zw rfl (zf rfl (zw rfl (zl f rfl rfl (zw rfl (zq rfl rfl (zt rfl rfl (za rfl (zz (U ?_)))))))));refine ⟨rfl,rfl,j0.g8 rfl ?_ ?_⟩
   ·first|(simp;omega)|(refine decide_eq_decide.2 ?_;omega)
   exact SMg
  refine zv rfl (zv rfl (zv rfl (ze rfl rfl (za rfl (zz (U ?_))))));refine ⟨rfl,rfl,j0.g8 rfl ?_ ?_⟩
  ·first|(simp;omega)|(refine decide_eq_decide.2 ?_;omega)
  exact SMg
 refine zy rfl ?_ ?_<;>intro a6<;>try simp only[qs] at a6
 ·have hA:0<(a7q l).na/\C=2:=a6
  refine Sr λ_ c3=>?_;refine WL.ev (Ev.build (vs:=_) (cs:=[_,_,_,_,_,_]) rfl rfl) rfl ?_;refine za rfl ?_;refine zss rfl rfl ao b rfl λh7 h a2=>?_;(try simp only[qt] at h);have a:=a.s1 a2;have b:=h;refine za rfl (zz (c3 ?_));refine zr (k9.ckq rfl (aZ.tmp rfl) (aZ.cell rfl (b.fJ rfl rfl)) (aZ.tmp rfl) ?_);exact .inl ⟨by unfold a2x;rw[if_neg M,if_neg hL,if_pos hA];decide,by unfold a2x;rw[if_neg M,if_neg hL,if_pos hA];rfl,a⟩
 have hA : ¬(0<(a7q l).na/\C=2):=a6;refine CW.oX 56 (decide (0<(a7q l).up+(a7q l).dn/\D=2)) ?_ ?_
 ·refine zS λ_ T=>zf rfl (zl d rfl rfl (zf rfl (zl d rfl rfl ?_)));(first|refine zi rfl rfl ?_|refine zo rfl rfl ?_);refine zG rfl rfl (zm rfl ?_);refine zb ?_ ?_<;>intro g3<;>try simp only[qs] at g3
  ·refine zw rfl (zf rfl (zw rfl (zl f rfl rfl (zw rfl (zq rfl rfl (zt rfl rfl (za rfl (zz (T ?_)))))))));refine ⟨rfl,rfl,j0.g8 rfl ?_ ?_⟩
   ·first|(simp;omega)|(refine decide_eq_decide.2 ?_;omega)
   exact SMg
  refine zv rfl (zv rfl (zv rfl (ze rfl rfl (za rfl (zz (T ?_))))));refine ⟨rfl,rfl,j0.g8 rfl ?_ ?_⟩
  ·first|(simp;omega)|(refine decide_eq_decide.2 ?_;omega)
  exact SMg
 refine zy rfl ?_ ?_<;>intro a5<;>try simp only[qs] at a5
 ·have hB:0<(a7q l).up+(a7q l).dn/\D=2:=a5
  refine Sr λ_ c2=>?_;refine WL.ev (Ev.build (vs:=_) (cs:=[_,_,_,_,_,_]) rfl rfl) rfl ?_;refine za rfl ?_;refine zss rfl rfl ao b rfl λh6 h a1=>?_;(try simp only[qt] at h);have a:=a.s1 a1;have b:=h;refine za rfl (zz (c2 ?_));refine zr (k9.ckq rfl (aZ.tmp rfl) (aZ.cell rfl (b.fJ rfl rfl)) (aZ.tmp rfl) ?_);exact .inl ⟨by unfold a2x;rw[if_neg M,if_neg hL,if_neg hA,if_pos hB];decide,by unfold a2x;rw[if_neg M,if_neg hL,if_neg hA,if_pos hB];rfl,a⟩
 have hB : ¬(0<(a7q l).up+(a7q l).dn/\D=2):=a5;refine zkk (c4 (zc λ_ c1=>?_));refine CW.gJ 3 5 rfl dZ λi1 b2 R j=>?_;have a:=a.ta j;have b:=b.k0 j;have d:=d.k0 j;have e:=e.k0 j;have o:=d;refine wk 0 rfl R (eM rfl) (wk 1 rfl R (λ_ F=>Ev.rZ rfl rfl (o.q8 F) rfl) (wk 2 rfl R (eA rfl) ?_));refine WK.nZ 3 rfl oR oR rfl rfl rfl ao b oS rfl λh5 h H=>?_;(try simp only[qt] at h);have a:=a.s1 H;have e:=e.kq H;have b:=h;refine WK.after 4 rfl oR oR (Ev.assign rfl) rfl ?_;refine WK.done oR (b2 _ _ _ ?_);refine c1 ?_;refine zr (k9.ckq rfl (aZ.tmp rfl) (aZ.cell rfl (b.fJ rfl rfl)) (aZ.tmp rfl) ?_);refine .inr ⟨by unfold a2x;rw[if_neg M,if_neg hL,if_neg hA,if_neg hB],_,?_,rfl,a⟩;have:=NF.part e.row (by rw[B];exact λx hx=>e7 x (List.mem_filter.1 hx).1) oO (k:=(bjj l).length) oO (c:=l.length) oO;rw[B] at this;exact this
end
section
open Wd
set_option exponentiation.threshold 5000
def tv:List Nat->Nat
  | []=>0
  | a::l=>a+18446744073709551616*tv l
def W64(l:List Nat):Prop:=∀ x∈l,x<18446744073709551616
def trm(W:List Nat)(at_:Nat):Nat->Nat
  | 0=>0
  | k+1=>trm W at_ k+W.getD k 0*18446744073709551616^(at_+k)
structure MvA(L W:List Nat)(at_:Nat)(C:List Nat)(c i:Nat):Prop where
  len:C.length=L.length
  w:W64 C
  lo:at_<=i
  hi:i<=L.length
  c1:c<=1
  eq:tv C+c*18446744073709551616^i=tv L+trm W at_ (i-at_)
structure MvS(L W:List Nat)(at_:Nat)(C:List Nat)(c i:Nat):Prop where
  len:C.length=L.length
  w:W64 C
  lo:at_<=i
  hi:i<=L.length
  c1:c<=1
  eq:tv C+trm W at_ (i-at_)=tv L+c*18446744073709551616^i
def laidW(hi lo by_:Nat):List Nat:=[lo*2^by_%18446744073709551616,(hi*2^by_%18446744073709551616)||| (lo/2^(64-by_)),hi/2^(64-by_)]
theorem laid_or{a lo k:Nat}(h:lo<18446744073709551616)(i:k<64):(a*2^k%18446744073709551616)||| (lo/2^(64-k))=a*2^k%18446744073709551616+lo/2^(64-k):=by
  have e:(18446744073709551616:Nat)=2^(64-k)*2^k:=by rw[<- Nat.pow_add,show 64-k+k=64 by omega]
  have g:=Nat.two_pow_pos k
  have b:=Nat.two_pow_pos (64-k)
  have f:a*2^k%18446744073709551616=a%2^(64-k)*2^k:=by rw[e,Nat.mul_mod_mul_right]
  have d:lo/2^(64-k)<2^k:=by
    rw[Nat.div_lt_iff_lt_mul b,Nat.mul_comm,<- e];exact h
  rw[f,Nat.or_comm,agj d,Nat.add_comm]
theorem laidW_val{d lo k:Nat}(h:lo<18446744073709551616)(i:k<64):tv (laidW d lo k)=(d*18446744073709551616+lo)*2^k:=by
  have e:(18446744073709551616:Nat)=2^(64-k)*2^k:=by rw[<- Nat.pow_add,show 64-k+k=64 by omega]
  simp only[laidW,tv,laid_or h i]
  have f:d*2^k%18446744073709551616+18446744073709551616*(d/2^(64-k))=d*2^k:=by
    have f:d*2^k%18446744073709551616=d%2^(64-k)*2^k:=by rw[e,Nat.mul_mod_mul_right]
    have:=Nat.mod_add_div d (2^(64-k))
    rw[f]
    calc _=(d%2^(64-k)+2^(64-k)*(d/2^(64-k)))*2^k:=by rw[Nat.add_mul];congr 1;rw[e];ac_rfl
      _=_:=by rw[this]
  have g:lo*2^k%18446744073709551616+18446744073709551616*(lo/2^(64-k))=lo*2^k:=by
    have f:lo*2^k%18446744073709551616=lo%2^(64-k)*2^k:=by rw[e,Nat.mul_mod_mul_right]
    have:=Nat.mod_add_div lo (2^(64-k))
    rw[f]
    calc _=(lo%2^(64-k)+2^(64-k)*(lo/2^(64-k)))*2^k:=by rw[Nat.add_mul];congr 1;rw[e];ac_rfl
      _=_:=by rw[this]
  rw[Nat.add_mul]
  generalize d/2^(64-k)=p at f ⊢
  generalize lo/2^(64-k)=q at g ⊢
  generalize lo*2^k%18446744073709551616=r at g ⊢
  generalize d*2^k%18446744073709551616=t at f ⊢
  rw[show d*18446744073709551616*2^k=18446744073709551616*(d*2^k) by ac_rfl]
  generalize d*2^k=a at f ⊢
  generalize lo*2^k=b at g ⊢
  omega
structure MinI(L C:List Nat)(c i:Nat):Prop where
  len:C.length=L.length
  w:W64 C
  hi:i<=L.length
  c1:c<=1
  same : ∀ j,i<=j->C.getD j 0=L.getD j 0
  eq:tv C+c*18446744073709551616^i+2*tv (L.take i)=tv L+18446744073709551616^i
end
section
open Go Sx Wd
set_option exponentiation.threshold 5000
theorem ceq{x:Nat}(h:(g6 x).cls=1\/(g6 x).cls=2): -1074<=(g6 x).exp/\(g6 x).exp<=971/\0<(g6 x).frac/\(g6 x).frac<9007199254740992:=by
  revert h
  unfold g6
  split
  · intro h;simp at h
  split
  · intro h;simp at h
  split
  · intro h;dsimp only;omega
  split
  · intro h;dsimp only;omega
  · intro h;simp at h
theorem splitP_cls(x:Nat):(g6 x).cls<=4:=by
  unfold g6
  split
  · simp
  split
  · simp
  split
  · simp
  split<;>simp
structure TH where
  cls:Nat
  neg:Bool
  tn:Bool
  at_:Nat
  W:List Nat
end
section
open Go Sx Wd
set_option exponentiation.threshold 5000
end
section
open Go Sx Wd
set_option exponentiation.threshold 5000
def MvR(sub:Bool)(L W:List Nat)(a_:Nat)(C:List Nat):Prop:=
  (sub=false->∃ c,c<=1/\tv C+c*18446744073709551616^67=tv L+tv W*18446744073709551616^a_)/\(sub=true->∃ c,c<=1/\tv C+tv W*18446744073709551616^a_=tv L+c*18446744073709551616^67)
structure MvI(sub:Bool)(L W:List Nat)(a_:Nat)(C:List Nat)(c i:Nat):Prop where
  a:sub=false->MvA L W a_ C c i
  s:sub=true->MvS L W a_ C c i
end
section
open Go Sx Wd
set_option exponentiation.threshold 5000
def BB:Nat:=18446744073709551616^66
def MM:Nat:=18446744073709551616^67
structure Rep(L:List Nat)(S:Int):Prop where
  len:L.length=67
  w:W64 L
  eq:(tv L:Int)=S%(MM:Int)
end
section
open Go Sx Wd
set_option exponentiation.threshold 5000
section
variable {P:Program} {s:Sl} {w:World} {ty:TypeId} {x q:Operand}
end
end
section
open Go Sx Wd
set_option exponentiation.threshold 5000
end
section
open Go Sx Wd
set_option exponentiation.threshold 5000
end
section
open Go Sx Wd
set_option exponentiation.threshold 5000
def thv(t:TH):Int:=if t.cls=1\/t.cls=2 then (if t.tn=true then -((tv t.W*18446744073709551616^t.at_:Nat):Int) else ((tv t.W*18446744073709551616^t.at_:Nat):Int)) else 0
end
section
open Go Sx Wd
set_option exponentiation.threshold 5000
end
section
open Go Sx Wd
set_option exponentiation.threshold 5000
end
section
open Go Sx Wd
set_option exponentiation.threshold 5000
def dlj(x y:Nat):TH:=
  if (g6 x).cls=4\/(g6 y).cls=4\/(min (g6 x).cls (g6 y).cls=0/\max (g6 x).cls (g6 y).cls=3) then ⟨4,false,false,0,[0,0,0]⟩
  else if (g6 x).cls=3\/(g6 y).cls=3 then ⟨3,(g6 x).neg != (g6 y).neg,false,0,[0,0,0]⟩
  else if (g6 x).cls=0\/(g6 y).cls=0 then ⟨0,(g6 x).neg != (g6 y).neg,false,0,[0,0,0]⟩
  else ⟨2,(g6 x).neg != (g6 y).neg,(g6 x).neg != (g6 y).neg,((g6 x).exp+(g6 y).exp+2148).toNat/64,laidW ((g6 x).frac*(g6 y).frac/18446744073709551616) ((g6 x).frac*(g6 y).frac%18446744073709551616) (((g6 x).exp+(g6 y).exp+2148).toNat%64)⟩
end
section
open Go Sx Wd
set_option exponentiation.threshold 5000
end
section
open Go Sx Wd
set_option exponentiation.threshold 5000
theorem cdj{n k K:Nat}(h:n<2^k)(a:k<=32*K):(wd n).length<=K:=aX.2 (Nat.lt_of_lt_of_le h (Nat.pow_le_pow_right oD a))
def fQ(S:Int):Dy:=(cX (decide (S<0)) S.natAbs (-2148)).getD Dy.zero
theorem c6q{S:Int}(h : -((16384*BB:Nat):Int)<S)(g:S<(16384*BB:Nat))(neg:Bool):cX neg S.natAbs (-2148)=some (if S=0 then Dy.zero else ⟨neg,S.natAbs/2^tz S.natAbs,-2148+tz S.natAbs⟩):=by
  by_cases h0:S=0
  · subst h0;rfl
  · have b:S.natAbs≠0:=by omega
    have a:S.natAbs<2^4238:=by
      have:16384*BB=2^4238:=by unfold BB;rw[show (18446744073709551616:Nat)=2^64 from rfl,<- Nat.pow_mul,show (16384:Nat)=2^14 from rfl,<- Nat.pow_add]
      rw[<- this];omega
    have e:=vQ.2 a
    have d:=zJ b
    rw[if_neg h0,sJ b]
    have f:(wd (S.natAbs/2^tz S.natAbs)).length<=8192:=cdj (Nat.lt_of_le_of_lt (Nat.div_le_self _ _) a) oO
    omega
end
section
open Go Sx Wd
set_option exponentiation.threshold 5000
theorem wd_len_lift{q y k:Nat}(h:(wd q).length<=k)(a:y<=32*k):(wd (2*(q*2^y))).length<=2*k+1:=by
  rw[aX] at h ⊢
  have b:q*2^y<2^(32*k)*2^(32*k):=Nat.lt_of_lt_of_le (Nat.mul_lt_mul_of_pos_right h (Nat.two_pow_pos _)) (Nat.mul_le_mul_left _ (Nat.pow_le_pow_right oD a))
  rw[<- Nat.pow_add] at b
  have d:2*2^(32*k+32*k)<=2^(32*(2*k+1)):=by
    rw[<- Nat.pow_succ'];exact Nat.pow_le_pow_right oD oO
  omega
theorem mZ{n k:Nat}(h:n<2^k)(a:k<=262144):(wd n).length<=8192:=cdj h oO
theorem bl_len{n k:Nat}(h:(wd n).length<=k):bl n<=32*k:=vQ.2 (aX.1 h)
theorem dvx{n k:Nat}(h:n<2^k):bl n<=k:=vQ.2 h
def abj(m:Nat)(cut:Bool):Nat:=2*m+if cut then 1 else 0
def ahq(e:Int):Int:=max (-3000) (min 3000 (e-1))
theorem ecx{m:Nat}{cut:Bool}(h:m<2^82):abj m cut<2^84:=by unfold abj;cases cut<;>simp<;>omega
theorem chx{neg:Bool}{m:Nat}{cut:Bool}{e:Int}(h:m<2^82): ∃ d,cX neg (abj m cut) (ahq e)=some d:=by
  have a:=ecx (cut:=cut) h
  by_cases h0:abj m cut=0
  · rw[h0];exact ⟨_,rfl⟩
  · have b:=zJ h0
    have f:=dvx a
    have g:=mZ (Nat.lt_of_le_of_lt (Nat.div_le_self _ (2^tz (abj m cut))) a) oD
    refine ⟨_,sJ h0 ?_⟩
    unfold ahq
    omega
def axj(neg:Bool)(m:Nat)(cut:Bool)(e:Int):Dy:=(cX neg (abj m cut) (ahq e)).getD Dy.zero
theorem about_spec(neg:Bool)(v:Value)(m:Nat)(cut:Bool)(e:Int)(w:World)(h:NU w v (wd m))(hg:GW w)(hm:m<2^82)(he : -1099511627776<=e/\e<=1099511627776):Ret Tryz.prog 269 [.bool neg,v,.bool cut,.int .i64 e] w λu w'=>DY w' u (axj neg m cut e)/\Chg [] w w':=by
 have a:=crf w;have b2:=dvx hm;have T:=mZ hm oD;obtain ⟨dd,X⟩:=chx (neg:=neg) (cut:=cut) (e:=e) hm;have a0:=ecx (cut:=cut) hm;have V:=hg;refine zE4 Tryz.func269 rfl ?_;refine Sr λ_ a7=>?_;refine zAh rfl rfl a λb8 b7 b Y b1 U a=>?_;have h:=h.q8 Y;refine zz (a7 (Sr λ_ a6=>zm rfl ?_));refine WL.call hasF167 rfl rfl (arq _ _ 1 _ h oO) λv w1 o=>?_;obtain ⟨o,I⟩:=o;rw[g7,show a9j m 1=m*2^1 from aqq m 1] at o;obtain ⟨_,c2,rfl,s⟩:=o.resolve_right (λq=>q.1 ⟨T,.inr oO⟩);have a:=a.ta I;have b:=b.k0 I;refine zm rfl (zx rfl rfl (zx rfl rfl (za rfl (zz (a6 (zc λ_ M=>Sr λ_ a5=>zm rfl (zz (a5 ?_))))))));refine zy rfl ?_ ?_<;>intro J<;>try simp only[qs] at J
 ·have a8:cut=true:=J
  refine zR λ_ a3=>?_;refine zm rfl ?_;refine WL.call hasF134 rfl rfl (b8j 1 _ oD) λv w2 o=>?_;obtain ⟨Z,C⟩:=o;have a:=a.ta C;have b:=b.k0 C;have s:=s.q8 C;refine WL.call hasF274 rfl rfl (dyj _ _ _ _ _ s Z) λv w3 o=>?_;obtain ⟨o,H⟩:=o;rw[g7,g7,show m*2^1+1=abj m cut by unfold abj;rw[a8,if_pos rfl];omega] at o;obtain ⟨_,_,_,c1,rfl,p⟩:=o.resolve_right (λq=>q.1 ⟨mZ (k:=84) oO oD,mZ (k:=84) oD oD,mZ a0 oD⟩);have a:=a.ta H;have b:=b.k0 H;refine zm rfl (zx rfl rfl (zx rfl rfl (za rfl ?_)));refine WL.nil (a3 _ _ _ (M ?_));refine Sr λ_ a4=>zm rfl (zm rfl (zm rfl ?_));refine WL.ev (Ev.dX rfl rfl oO) rfl ?_;refine WL.ev (Ev.minI rfl rfl) rfl ?_;refine WL.ev (Ev.maxI rfl rfl) rfl ?_;rw[show max (-3000) (min 3000 (e-1))=ahq e from rfl];have b0 : -3000<=ahq e/\ahq e<=3000:=by unfold ahq;omega
  refine WL.call hasF178 rfl rfl (a9q neg _ (wd (abj m cut)) (ahq e) _ p (V.q8 a) oO) λv w4 o=>?_;obtain ⟨B,n⟩:=o;rw[g7] at B;have t:cX neg (abj m cut) (ahq e)=some (axj neg m cut e):=by unfold axj;rw[X];rfl
  rcases B with ⟨r,d2,f,rfl,d⟩|⟨f,_⟩
  rotate_left
  · rw[t] at f;cases f
  rw[t] at f;cases f;have a:=a.ta n;have b:=b.k0 n;refine zm rfl (zx rfl rfl (zx rfl rfl ?_));refine zAh rfl rfl a λb9 a2 g i y x a=>?_;have d:=d.q8 i;have D:=zdd b.lt y;have b:=b.k0 i;refine zss rfl rfl ao g rfl λb6 j A=>?_;(try simp only[qt] at j);have a:=a.s1 A;have b:=b.kq A;have d:=d.q9 g A an;have g:=j;refine za rfl (zz (a4 (Sr λ_ R=>zg g rfl ?_)));refine zss rfl rfl ao b rfl λb5 l G=>?_;(try simp only[qt] at l);have a:=a.s1 G;have d:=d.q9 b G an;have b:=l;refine zz (R ?_);refine zr (k9.qJ rfl (aZ.cell rfl (b.fJ rfl rfl)) ?_);exact ⟨⟨_,rfl,d⟩,a⟩
 have a9:cut=false:=J;have p:=s;rw[show m*2^1=abj m cut by unfold abj;rw[a9];simp;omega] at p;refine zkk (M (Sr λ_ Q=>zm rfl (zm rfl (zm rfl ?_))));refine WL.ev (Ev.dX rfl rfl oO) rfl ?_;refine WL.ev (Ev.minI rfl rfl) rfl ?_;refine WL.ev (Ev.maxI rfl rfl) rfl ?_;rw[show max (-3000) (min 3000 (e-1))=ahq e from rfl];have b0 : -3000<=ahq e/\ahq e<=3000:=by unfold ahq;omega
 refine WL.call hasF178 rfl rfl (a9q neg _ (wd (abj m cut)) (ahq e) _ p (V.q8 a) oO) λv w5 o=>?_;obtain ⟨B,n⟩:=o;rw[g7] at B;have t:cX neg (abj m cut) (ahq e)=some (axj neg m cut e):=by unfold axj;rw[X];rfl
 rcases B with ⟨r,d2,f,rfl,d⟩|⟨f,_⟩
 rotate_left
 · rw[t] at f;cases f
 rw[t] at f;cases f;have a:=a.ta n;have b:=b.k0 n;refine zm rfl (zx rfl rfl (zx rfl rfl ?_));refine zAh rfl rfl a λb9 a2 g i y x a=>?_;have d:=d.q8 i;have D:=zdd b.lt y;have b:=b.k0 i;refine zss rfl rfl ao g rfl λb4 j z=>?_;(try simp only[qt] at j);have a:=a.s1 z;have b:=b.kq z;have d:=d.q9 g z an;have g:=j;refine za rfl (zz (Q (Sr λ_ O=>zg g rfl ?_)));refine zss rfl rfl ao b rfl λb3 l F=>?_;(try simp only[qt] at l);have a:=a.s1 F;have d:=d.q9 b F an;have b:=l;refine zz (O ?_);refine zr (k9.qJ rfl (aZ.cell rfl (b.fJ rfl rfl)) ?_);exact ⟨⟨_,rfl,d⟩,a⟩
structure KDg(A0 B:Nat)(w0:World)(vb:Value)(g:Nat×Nat×Nat×Value×Value)(w:World):Prop where
  m:cqq A0 B g.1 g.2.1 g.2.2.1
  i:g.1<=82
  hs:NU w g.2.2.2.1 (wd g.2.1)
  ha:NU w g.2.2.2.2 (wd g.2.2.1)
  hb:NU w vb (wd B)
  ch:Chg [] w0 w
theorem dig_small{d B i b a:Nat}(h:cqq d B i b a)(e:d<2*B):a<=2*B:=by
  by_cases h0:i=0
  · have:=(h.z h0).2;omega
  · have:=(h.s oO).2;omega
theorem digits_spec(vm vq:Value)(m q:Nat)(w:World)(hm:NU w vm (wd m))(hq:NU w vq (wd q))(d6:(wd m).length<=8192)(c4:(wd q).length<=8192)(d5:q≠0):Ret Tryz.prog 267 [vm,vq,.int .i64 82] w λu w'=>(∃ vs size a,u = .tuple [vs,.bool (decide (a≠0)),.int .i64 ((bl m:Int)-(bl q:Int)-81)].toArray/\NU w' vs (wd size)/\cqq (m*2^(max 0 (-((bl m:Int)-(bl q:Int)))).toNat) (q*2^(max 0 ((bl m:Int)-(bl q:Int))).toNat) 82 size a)/\Chg [] w w':=by
 have b:=crf w;have g0:=bl_len d6;have f9:=bl_len c4;obtain ⟨x,hx⟩ : ∃ x,x=(max 0 (-((bl m:Int)-(bl q:Int)))).toNat:=⟨_,rfl⟩;obtain ⟨y,hy⟩ : ∃ y,y=(max 0 ((bl m:Int)-(bl q:Int))).toNat:=⟨_,rfl⟩;have C:m*2^x<2*(q*2^y):=by
  by_cases h0:m=0
  · rw[h0,Nat.zero_mul];have:=Nat.mul_pos (show 0<q by omega) (Nat.two_pow_pos y);omega
  rw[hx,hy];exact (cfj h0 d5 rfl).1
 rw[<- hx,<- hy];have e1:=wd_len_lift c4 (y:=y) oO;obtain ⟨A0,c6⟩ : ∃ A0,A0=m*2^x:=⟨_,rfl⟩;obtain ⟨B,hB⟩ : ∃ B,B=q*2^y:=⟨_,rfl⟩;rw[<- c6] at C ⊢;rw[<- hB] at C e1 ⊢;refine zE3 Tryz.func267 rfl ?_;refine Sr λ_ d4=>za rfl (za rfl (za rfl (zz (d4 (Sr λ_ d3=>zm rfl ?_)))));refine WL.call hasF139 rfl rfl (a4j _ _ _ hm) λv w1 f=>?_;obtain ⟨rfl,rfl⟩:=f;rw[g7];refine zm rfl ?_;refine WL.call hasF139 rfl rfl (a4j _ _ _ hq) λv w2 f=>?_;obtain ⟨rfl,rfl⟩:=f;rw[g7];refine WL.ev (Ev.dX rfl rfl oO) rfl ?_;refine za rfl (zz (d3 (Sr λ_ d2=>zm rfl (zm rfl ?_))));refine WL.ev (Ev.bpx rfl oO) rfl ?_;refine WL.ev (Ev.maxI rfl rfl) rfl ?_;rw[show max 0 (-((bl m:Int)-(bl q:Int)))=((x:Nat):Int) by omega];refine WL.call hasF271 rfl rfl (b1q _ _ x _ hm oO oO) λa4 w3 f=>?_;obtain ⟨A,X⟩:=f;rw[g7,<- c6] at A;have b:=b.ta X;have hq:=hq.q8 X;refine zm rfl (zm rfl ?_);refine WL.ev (Ev.maxI rfl rfl) rfl ?_;rw[show max 0 ((bl m:Int)-(bl q:Int))=((y:Nat):Int) by omega];refine WL.call hasF271 rfl rfl (b1q _ _ y _ hq oO oO) λO w4 f=>?_;obtain ⟨h,V⟩:=f;rw[g7,<- hB] at h;have b:=b.ta V;have A:=A.q8 V;refine za rfl (za rfl (zz (d2 (zc λ_ d1=>Sr λ_ d0=>zm rfl (zm rfl (zz (d0 (CW.block ?_))))))));refine CW.loop (S:=λg:Nat×Nat×Nat×Value×Value=>[(2,.int .i64 82),(6,g.2.2.2.1),(9,.int .i64 ((bl m:Int)-(bl q:Int))),(10,g.2.2.2.2),(11,O),(27,.int .i64 82),(28,.int .i64 (g.1:Int))]) (Inv:=KDg A0 B w O) (mu:=λg=>82-g.1) ((0,0,A0,.slice none 0 0,a4)) ?_ ?_ ?_
 ·exact ⟨cqq.zero _ _,Nat.zero_le _,by rw[fX];exact NU.nil,A,h,b⟩
 ·exact SLp
 rintro ⟨i,size,a,vs,va⟩ wr ⟨U,c5,hs,A,h,b⟩;dsimp only at U c5 hs A h b;dsimp only;have g1:=uZ (dig_small U C);refine Sr λ_ c3=>zL rfl rfl (zz (c3 (zc λ_ c2=>?_)));refine zy rfl ?_ ?_<;>intro e0<;>try simp only[qs] at e0
 ·have f6:=U.w
  have e6:2^i<=2^82:=Nat.pow_le_pow_right oD oO;have R:size<2^82:=by omega
  have e8:=dvx R;have T:=mZ R oD;refine zkk (c2 (zc λ_ D=>CW.block (Sr λ_ c1=>zm rfl (za rfl (zz (c1 (zc λ_ Q=>Sr λ_ b9=>zm rfl (zG rfl rfl (zz (b9 ?_))))))))));refine zy rfl ?_ ?_<;>intro d9<;>try simp only[qs] at d9
  ·have a2:0<i:=by omega
   refine zR λ_ b1=>?_;refine zm rfl ?_;refine WL.call hasF271 rfl rfl (b1q _ _ 1 _ A oD oO) λc9 w5 f=>?_;obtain ⟨s,M⟩:=f;rw[g7] at s;have b:=b.ta M;have hs:=hs.q8 M;have h:=h.q8 M;refine za rfl ?_;refine WL.nil (b1 _ _ _ (Q ?_));refine Sr λ_ b8=>zm rfl ?_;refine WL.call hasF167 rfl rfl (arq _ _ 1 _ hs oO) λv w6 f=>?_;obtain ⟨f,r⟩:=f;rw[g7,show a9j size 1=size*2^1 from aqq size 1] at f;obtain ⟨_,a0,rfl,d⟩:=f.resolve_right (λq=>q.1 ⟨T,.inr oO⟩);have b:=b.ta r;have s:=s.q8 r;have h:=h.q8 r;refine zm rfl (zx rfl rfl (zx rfl rfl (za rfl (zz (b8 (Sr λ_ b7=>zm rfl (zm rfl ?_)))))));refine WL.call hasF272 rfl rfl (cbq _ _ (a*2^1) B _ s h) λv w7 f=>?_;obtain ⟨rfl,l⟩:=f;have b:=b.ta l;have s:=s.q8 l;have h:=h.q8 l;have d:=d.q8 l;refine WL.ev (Ev.geq rfl rfl) rfl ?_;refine zz (b7 ?_);refine zy rfl ?_ ?_<;>intro G<;>try simp only[qs] at G
   ·have H:B<=a*2^1:=Nat.le_of_not_lt λz=>by unfold sgn at G;rw[if_pos z] at G;omega
    have t:=U.step (a':=a*2^1) C (by rw[if_pos a2]);refine Sr λ_ b6=>zm rfl (zm rfl ?_);refine WL.call hasF273 rfl rfl (dgq _ _ _ _ _ s h (by rw[g7,g7];exact H)) λY w8 f=>?_;obtain ⟨e,p⟩:=f;rw[g7,g7] at e;have b:=b.ta p;have h:=h.q8 p;have d:=d.q8 p;refine za rfl (zz (b6 ?_));refine zR λ_ b0=>?_;refine zm rfl ?_;refine WL.call hasF134 rfl rfl (b8j 1 _ oD) λv w9 f=>?_;obtain ⟨J,j⟩:=f;have b:=b.ta j;have e:=e.q8 j;have h:=h.q8 j;have d:=d.q8 j;refine WL.call hasF274 rfl rfl (dyj _ _ _ _ _ d J) λv f4 f=>?_;obtain ⟨f,o⟩:=f;rw[g7,g7] at f;obtain ⟨_,_,_,Z,rfl,I⟩:=f.resolve_right (λq=>q.1 ⟨mZ (k:=84) oO oD,mZ (k:=84) oD oD,mZ (k:=84) oO oD⟩);have b:=b.ta o;have e:=e.q8 o;have h:=h.q8 o;refine zm rfl (zx rfl rfl (zx rfl rfl (za rfl ?_)));refine WL.nil (b0 _ _ _ (D ?_));refine zS λ_ a9=>?_;(first|refine zi rfl rfl ?_|refine zo rfl rfl ?_);refine zm rfl (zz (a9 ?_));refine ⟨rfl,(i+1,size*2^1+1,a*2^1-B,Z,Y),?_,?_,?_⟩
    ·exact SLp
    ·exact ⟨t.1 H,by show i+1<=82;omega,I,e,h,b⟩
    show 82-(i+1)<82-i;omega
   have z:a*2^1<B:=Nat.lt_of_not_le λd7=>by unfold sgn at G;rw[if_neg oO] at G;split at G<;>omega
   have t:=U.step (a':=a*2^1) C (by rw[if_pos a2]);refine zkk (D (zS λ_ a8=>?_));(first|refine zi rfl rfl ?_|refine zo rfl rfl ?_);refine zm rfl (zz (a8 ?_));refine ⟨rfl,(i+1,size*2^1,a*2^1,a0,c9),?_,?_,?_⟩
   ·exact SLp
   ·exact ⟨t.2 z,by show i+1<=82;omega,d,s,h,b⟩
   show 82-(i+1)<82-i;omega
  have a2:i=0:=by omega
  refine zkk (Q (Sr λ_ b5=>zm rfl ?_));refine WL.call hasF167 rfl rfl (arq _ _ 1 _ hs oO) λv f3 f=>?_;obtain ⟨f,r⟩:=f;rw[g7,show a9j size 1=size*2^1 from aqq size 1] at f;obtain ⟨_,a0,rfl,d⟩:=f.resolve_right (λq=>q.1 ⟨T,.inr oO⟩);have b:=b.ta r;have A:=A.q8 r;have h:=h.q8 r;refine zm rfl (zx rfl rfl (zx rfl rfl (za rfl (zz (b5 (Sr λ_ b4=>zm rfl (zm rfl ?_)))))));refine WL.call hasF272 rfl rfl (cbq _ _ (a) B _ A h) λv w12 f=>?_;obtain ⟨rfl,l⟩:=f;have b:=b.ta l;have A:=A.q8 l;have h:=h.q8 l;have d:=d.q8 l;refine WL.ev (Ev.geq rfl rfl) rfl ?_;refine zz (b4 ?_);refine zy rfl ?_ ?_<;>intro F<;>try simp only[qs] at F
  ·have H:B<=a:=Nat.le_of_not_lt λz=>by unfold sgn at F;rw[if_pos z] at F;omega
   have t:=U.step (a':=a) C (by rw[if_neg oO]);refine Sr λ_ b3=>zm rfl (zm rfl ?_);refine WL.call hasF273 rfl rfl (dgq _ _ _ _ _ A h (by rw[g7,g7];exact H)) λY f2 f=>?_;obtain ⟨e,p⟩:=f;rw[g7,g7] at e;have b:=b.ta p;have h:=h.q8 p;have d:=d.q8 p;refine za rfl (zz (b3 ?_));refine zR λ_ a7=>?_;refine zm rfl ?_;refine WL.call hasF134 rfl rfl (b8j 1 _ oD) λv f1 f=>?_;obtain ⟨J,j⟩:=f;have b:=b.ta j;have e:=e.q8 j;have h:=h.q8 j;have d:=d.q8 j;refine WL.call hasF274 rfl rfl (dyj _ _ _ _ _ d J) λv f0 f=>?_;obtain ⟨f,o⟩:=f;rw[g7,g7] at f;obtain ⟨_,_,_,Z,rfl,I⟩:=f.resolve_right (λq=>q.1 ⟨mZ (k:=84) oO oD,mZ (k:=84) oD oD,mZ (k:=84) oO oD⟩);have b:=b.ta o;have e:=e.q8 o;have h:=h.q8 o;refine zm rfl (zx rfl rfl (zx rfl rfl (za rfl ?_)));refine WL.nil (a7 _ _ _ (D ?_));refine zS λ_ a6=>?_;(first|refine zi rfl rfl ?_|refine zo rfl rfl ?_);refine zm rfl (zz (a6 ?_));refine ⟨rfl,(i+1,size*2^1+1,a-B,Z,Y),?_,?_,?_⟩
   ·exact SLp
   ·exact ⟨t.1 H,by show i+1<=82;omega,I,e,h,b⟩
   show 82-(i+1)<82-i;omega
  have z:a<B:=Nat.lt_of_not_le λd7=>by unfold sgn at F;rw[if_neg oO] at F;split at F<;>omega
  have t:=U.step (a':=a) C (by rw[if_neg oO]);refine zkk (D (zS λ_ a5=>?_));(first|refine zi rfl rfl ?_|refine zo rfl rfl ?_);refine zm rfl (zz (a5 ?_));refine ⟨rfl,(i+1,size*2^1,a,a0,va),?_,?_,?_⟩
  ·exact SLp
  ·exact ⟨t.2 z,by show i+1<=82;omega,d,A,h,b⟩
  show 82-(i+1)<82-i;omega
 have a1:i=82:=by omega
 subst a1;refine CW.exit ?_;refine d1 (Sr λ_ b2=>zm rfl (zm rfl ?_));obtain ⟨aa,ca,rfl,d8,f7⟩:=A.ex;have f8:=a1x (n:=a);refine zn rfl (zG rfl rfl ?_);rw[show decide ((0:Int)<(((wd a).length:Nat):Int))=decide (a≠0) from decide_eq_decide.2 oO];refine zm rfl (zm rfl ?_);refine WL.ev (Ev.dX rfl rfl oO) rfl ?_;refine WL.ev (Ev.dX rfl rfl oO) rfl ?_;refine za rfl (za rfl (za rfl (zz (b2 ?_))));refine zr ?_;refine k9.ret3 rfl rfl rfl rfl ?_;exact ⟨⟨_,size,a,rfl,hs,U⟩,b⟩
end
section
open Go Sx Wd
set_option exponentiation.threshold 5000
theorem d1x(M nd:Bool)(Y Z:Value)(m q:Nat)(H I:Int)(w:World)(l:NU w Y (wd m))(k:NU w Z (wd q))(B:(wd m).length<=8192)(A:(wd q).length<=8192)(U:q≠0)(b4 : -1048576<=H/\H<=1048576)(b5 : -1048576<=I/\I<=1048576)(hg:GW w):Ret Tryz.prog 252 [.agg [.bool M,Y,.int .i64 H,.bool nd,Z,.int .i64 I].toArray] w λu w'=>(∃ size a,DY w' u (axj M size (decide (a≠0)) (((bl m:Int)-(bl q:Int))-81+H-I))/\cqq (m*2^(max 0 (-((bl m:Int)-(bl q:Int)))).toNat) (q*2^(max 0 ((bl m:Int)-(bl q:Int))).toNat) 82 size a)/\Chg [] w w':=by
 have b:=crf w;have b0:=l.one;have a9:=k.one;have b7:=bl_len B;have b6:=bl_len A;have V:=hg;refine zE1 Tryz.func252 rfl ?_;refine Sr λ_ T=>?_;refine zBh rfl rfl rfl b λb1 a3 d o a0 D b=>?_;have l:=l.q8 o;have k:=k.q8 o;refine zAh rfl rfl b λb2 a2 e i F C b=>?_;have l:=l.q8 i;have k:=k.q8 i;have J:=zdd d.lt F;have d:=d.k0 i;refine zz (T (zc λ_ R=>?_));refine CW.cQ 16 rfl dZ λa8 O f h=>?_;have b:=b.ta h;have d:=d.k0 h;have e:=e.k0 h;have l:=l.q8 h;have k:=k.q8 h;have j:=d;refine wh 0 rfl f (eF rfl) (wh 1 rfl f (eF rfl) (wh 2 rfl f (λ_ x=>Ev.load rfl rfl ((j.q8 x).at_ rfl)) (wh 4 rfl f (eF rfl) (wh 5 rfl f (eF rfl) (wh 6 rfl f (λ_ x=>Ev.load rfl rfl ((j.q8 x).at_ rfl)) ?_)))));refine WH.k7 3 rfl oR hasF266 rfl rfl (a6j _ _ _ l) λa5 w1 z=>?_;obtain ⟨s,rfl⟩:=z;rw[g7] at s;refine ⟨f,?_⟩;refine WH.k7 7 rfl oR hasF266 rfl rfl (a6j _ _ _ k) λa4 w2 z=>?_;obtain ⟨r,rfl⟩:=z;rw[g7] at r;refine ⟨f,?_⟩;refine WH.k7 8 rfl oR hasF267 rfl rfl (digits_spec _ _ m q _ s r B A U) λv w3 z=>?_;obtain ⟨⟨vs,size,a,rfl,X,G⟩,g⟩:=z;have b:=b.ta g;have d:=d.k0 g;have e:=e.k0 g;have f:=f.trans g;refine ⟨f,?_⟩;refine wh 9 rfl f (eM rfl) (wh 10 rfl f (eX rfl rfl) (wh 11 rfl f (eX rfl rfl) (wh 12 rfl f (eX rfl rfl) (wh 13 rfl f (eA rfl) (wh 14 rfl f (eA rfl) (wh 15 rfl f (eA rfl) ?_))))));refine WH.done oR (O _ _ _ ?_);refine R (Sr λ_ Q=>zf rfl (zf rfl (zl d rfl rfl (zm rfl (zm rfl (zm rfl (zf rfl (zf rfl (zl d rfl rfl ?_)))))))));refine WL.ev (Ev.kQ rfl rfl oO) rfl ?_;refine zf rfl (zf rfl (zl d rfl rfl ?_));refine WL.ev (Ev.dX rfl rfl oO) rfl ?_;refine WL.call hasF269 rfl rfl (about_spec M _ size (decide (a≠0)) (((bl m:Int)-(bl q:Int))-81+H-I) _ X (V.q8 b) G.w oO) λv w4 z=>?_;obtain ⟨⟨rr,rfl,y⟩,t⟩:=z;have b:=b.ta t;have e:=e.k0 t;refine zss rfl rfl ao e rfl λa1 p n=>?_;(try simp only[qt] at p);have b:=b.s1 n;have y:=y.q9 e n an;have e:=p;refine zz (Q ?_);refine zr (k9.qJ rfl (aZ.cell rfl (e.fJ rfl rfl)) ?_);exact ⟨⟨size,a,⟨rr,rfl,y⟩,G⟩,b⟩
end
section
open Go Sx Wd
set_option exponentiation.threshold 5000
def RC(w:World)(ad:Addr)(l:List Value):Prop:=∀ j v,l[j]?=some v->w.cell? (ad.add j)=some v
theorem RC.q8{w w':World}{a:Addr}{l:List Value}(h:RC w a l)(b:Chg [] w w'):RC w' a l:=λj v hv=>b.cell (h j v hv) oS
theorem RC.lt{w:World}{g:Nat}{l:List Value}(h:RC w ⟨g,0,none⟩ l)(d:0<l.length):g<w.heap.size:=by
  have b:=h 0 _ (List.getElem?_eq_getElem d)
  rw[axq] at b
  apply Nat.lt_of_not_le
  intro a
  have:w.heap[g]?=none:=Array.getElem?_eq_none a
  simp[World.cell?,this] at b
theorem RC.q9{w w':World}{g b:Nat}{T:TypeId}{l cs:List Value}(h:RC w ⟨g,0,none⟩ l)(e:BK w b T cs)(d:Chg [b] w w')(_ : ∀ c∈cs,xX c=false)(a:g≠b:=by omega):RC w' ⟨g,0,none⟩ l:=λj v hv=>d.cell (h j v hv) (by rw[axq];simpa using a)
theorem RC.of_BK{w:World}{b:Nat}{T:TypeId}{l:List Value}(h:BK w b T l):RC w ⟨b,0,none⟩ l:=λj v hv=>by rw[axq,Nat.zero_add];exact h.at_ hv
def clx(dx dy:Dy)(rx ry:Value):List Value:=[.bool dx.neg,rx,.int .i64 dx.e,.bool dy.neg,ry,.int .i64 dy.e]
def FmR(w:World)(u:Value)(x y:Option Dy)(sg:Int):Prop:=
  (sg<0/\u = .tuple [.slice none 0 0,.int .i64 1].toArray)\/
  (0<=sg/\(x=none\/y=none)/\u = .tuple [.slice none 0 0,.int .i64 2].toArray)\/
  (0<=sg/\∃ dx dy,x=some dx/\y=some dy/\dy.m=0/\u = .tuple [.slice none 0 0,.int .i64 21].toArray)\/
  (0<=sg/\∃ dx dy,x=some dx/\y=some dy/\dy.m≠0/\∃ g c rx ry,u = .tuple [.slice (some ⟨g,0,none⟩) 1 c,.int .i64 0].toArray/\RC w ⟨g,0,none⟩ (clx dx dy rx ry)/\NU w rx (wd dx.m)/\NU w ry (wd dy.m))
structure KF1(sg:Int)(w0:World)(i:Nat)(w:World):Prop where
  hi:i<=1
  s:i=1->0<=sg
  ch:Chg [] w0 w
structure KF2(x y:Option Dy)(w0:World)(g:Nat×Value)(w:World):Prop where
  hi:g.1<=1
  z:g.1=0->g.2 = .slice none 0 0
  o:g.1=1->∃ dx dy ad c rx ry,x=some dx/\y=some dy/\g.2 = .slice (some ⟨ad,0,none⟩) 1 c/\RC w ⟨ad,0,none⟩ (clx dx dy rx ry)/\NU w rx (wd dx.m)/\NU w ry (wd dy.m)
  ch:Chg [] w0 w
structure KF3(dx dy:Dy)(rx ry:Value)(ad:Nat)(w0:World)(i:Nat)(w:World):Prop where
  hi:i<=1
  z:i=1->dy.m≠0
  rc:RC w ⟨ad,0,none⟩ (clx dx dy rx ry)
  hx:NU w rx (wd dx.m)
  hy:NU w ry (wd dy.m)
  ch:Chg [] w0 w
theorem bax{neg:Bool}{n:Nat}: sgD neg n=0↔n=0:=by
  unfold sgD
  by_cases h:n=0
  · rw[if_pos h];simp[h]
  · rw[if_neg h];cases neg<;>simp[h]
theorem forms_spec(b:Nat)(nn nd:Bool)(vn vd:Value)(ln ld:List Nat)(en ed:Int)(w:World)(q:BK w b 161 [.bool nn,vn,.int .i64 en,.bool nd,vd,.int .i64 ed])(hn:NU w vn ln)(y:NU w vd ld)(hg:GW w)(m9 : -9223372036854775808<=en/\en<=9223372036854775807)(k1 : -9223372036854775808<=ed/\ed<=9223372036854775807):Ret Tryz.prog 250 [.slice (some ⟨b,0,none⟩) 1 1] w λu w'=>FmR w' u (cX nn (val ln) en) (cX nd (val ld) ed) (sgD nd (val ld))/\Chg [] w w':=by
 have a:=crf w;have l3:=q;have i3:=hn;have k2:=y;have p8:=hn.one;have p9:=y.one;have d7:=hg;refine zE1 Tryz.func250 rfl ?_;refine Sr λ_ m5=>za rfl (za rfl (zz (m5 (zc λ_ m4=>Sr λ_ m3=>zm rfl (zn rfl (zm rfl (zz (m3 (CW.block ?_)))))))));refine CW.loop (S:=λi:Nat=>[(0,.slice (some ⟨b,0,none⟩) 1 1),(15,.slice (some ⟨b,0,none⟩) 1 1),(16,.int .i64 1),(17,.int .i64 (i:Int))]) (Inv:=KF1 (sgD nd (val ld)) w) (mu:=λi=>1-i) (0) ?_ ?_ ?_
 ·exact ⟨by decide,λh=>(by cases h),a⟩
 ·exact SLp
 rintro i wr ⟨d5,Q,a⟩;have q:=l3.q8 a;have hn:=i3.q8 a;have y:=k2.q8 a;refine Sr λ_ m2=>zL rfl rfl (zz (m2 (zc λ_ m1=>?_)));refine zy rfl ?_ ?_<;>intro n2<;>try simp only[qs] at n2
 ·have z:i=0:=by omega
  subst z;refine zkk (m1 (zc λ_ m0=>CW.block (Sr λ_ i0=>?_)));refine WL.ev (Ev.indexAddr rfl rfl oO oO) rfl ?_;rw[show 0+((0:Nat):Int).toNat*6=0 from rfl];refine zg q rfl ?_;refine WL.iZ (l:=[.bool false,.slice none 0 0,.int .i64 0,.bool false,.slice none 0 0,.int .i64 0]) rfl rfl λb5 p5 c1 c8 i7=>?_;have i5:=Nat.le_trans a.size i7;have a:=a.ta c8;have y:=y.q8 c8;have m8:b≠b5:=by have:=q.lt;omega
  refine zss rfl rfl ao c1 rfl λp3 d0 c7=>?_;(try simp only[qt] at d0);have a:=a.s1 c7;have y:=y.q9 c1 c7 an;have c1:=d0;refine zz (i0 (Sr λ_ h9=>zf rfl ?_));refine WL.ev (Ev.fZ rfl rfl c1 rfl rfl) rfl ?_;simp only[List.drop_succ_cons,List.drop_zero,List.take_succ_cons,List.take_zero];refine WL.call hasF74 rfl rfl (akq nd vd ld ed _ y) λv w1 h'=>?_;obtain ⟨rfl,l2⟩:=h';have a:=a.ta l2;refine zL rfl rfl (zz (h9 ?_));refine zy rfl ?_ ?_<;>intro d9<;>try simp only[qs] at d9
  ·have d2:sgD nd (val ld)<0:=d9
   refine Sr λ_ h8=>za rfl (za rfl (zz (h8 ?_)));refine zr (zr2 rfl rfl rfl ?_);exact ⟨.inl ⟨d2,rfl⟩,a⟩
  have d2:0<=sgD nd (val ld):=by have:=d9;omega
  refine zkk (m0 (zS λ_ e9=>?_));(first|refine zi rfl rfl ?_|refine zo rfl rfl ?_);refine zm rfl (zz (e9 ?_));refine ⟨rfl,1,?_,?_,?_⟩
  ·exact SLp
  ·exact ⟨by decide,λ_=>d2,a⟩
  decide
 have z:i=1:=by omega
 subst z;have Q:=Q rfl;refine CW.exit ?_;refine m4 (Sr λ_ h7=>za rfl (zz (h7 (zc λ_ h6=>Sr λ_ h5=>zm rfl (zn rfl (zm rfl (zz (h5 (CW.block ?_)))))))));refine CW.loop (S:=λg:Nat×Value=>[(0,.slice (some ⟨b,0,none⟩) 1 1),(6,g.2),(26,.slice (some ⟨b,0,none⟩) 1 1),(27,.int .i64 1),(28,.int .i64 (g.1:Int))]) (Inv:=KF2 (cX nn (val ln) en) (cX nd (val ld) ed) w) (mu:=λg=>1-g.1) ((0,.slice none 0 0)) ?_ ?_ ?_
 ·exact ⟨by decide,λ_=>rfl,λh=>(by cases h),a⟩
 ·exact SLp
 rintro ⟨i,vo⟩ wr ⟨d5,hz,ho,a⟩;dsimp only at d5 hz ho a;dsimp only;have q:=l3.q8 a;have hn:=i3.q8 a;have y:=k2.q8 a;refine Sr λ_ h4=>zL rfl rfl (zz (h4 (zc λ_ h3=>?_)));refine zy rfl ?_ ?_<;>intro n1<;>try simp only[qs] at n1
 ·have z:i=0:=by omega
  subst z;obtain rfl:=hz rfl;refine zkk (h3 (zc λ_ h2=>CW.block (Sr λ_ h1=>?_)));refine WL.ev (Ev.indexAddr rfl rfl oO oO) rfl ?_;rw[show 0+((0:Nat):Int).toNat*6=0 from rfl];refine zg q rfl ?_;refine WL.iZ (l:=[.bool false,.slice none 0 0,.int .i64 0,.bool false,.slice none 0 0,.int .i64 0]) rfl rfl λb8 p4 f Y i6=>?_;have i4:=Nat.le_trans a.size i6;have a:=a.ta Y;have hn:=hn.q8 Y;have y:=y.q8 Y;have m7:b≠b8:=by have:=q.lt;omega
  have q:=q.q8 Y;refine zss rfl rfl ao f rfl λp2 c9 X=>?_;(try simp only[qt] at c9);have a:=a.s1 X;have q:=q.kq X;have hn:=hn.q9 f X an;have y:=y.q9 f X an;have f:=c9;refine zz (h1 (Sr λ_ c5=>zf rfl (zf rfl (zl f rfl rfl (zf rfl (zf rfl (zl f rfl rfl (zf rfl (zf rfl (zl f rfl rfl ?_))))))))));refine WL.call hasF178 rfl rfl (a9q nn vn ln en _ hn (d7.q8 a) m9) λv w2 h'=>?_;obtain ⟨l1,a1⟩:=h';have a:=a.ta a1;have q:=q.q8 a1;have f:=f.k0 a1;have y:=y.q8 a1;rcases l1 with ⟨rx,dx,J,rfl,d⟩|⟨J,rfl⟩
  ·refine zm rfl (zx rfl rfl (zx rfl rfl ?_));refine zAh rfl rfl a λb9 l8 p x a7 a6 a=>?_;have y:=y.q8 x;have d:=d.q8 x;have d4:b≠b9:=by have:=q.lt;omega
   have q:=q.q8 x;have b4:=zdd f.lt a7;have f:=f.k0 x;refine zss rfl rfl ao p rfl λp1 Z M=>?_;(try simp only[qt] at Z);have a:=a.s1 M;have q:=q.kq M;have f:=f.kq M;have y:=y.q9 p M an;have d:=d.q9 p M an;have p:=Z;refine za rfl (zz (c5 (Sr λ_ c4=>zf rfl (zf rfl (zl f rfl rfl (zf rfl (zf rfl (zl f rfl rfl (zf rfl (zf rfl (zl f rfl rfl ?_)))))))))));refine WL.call hasF178 rfl rfl (a9q nd vd ld ed _ y (d7.q8 a) k1) λv w3 h'=>?_;obtain ⟨a9,B⟩:=h';have a:=a.ta B;have q:=q.q8 B;have p:=p.k0 B;have d:=d.q8 B;rcases a9 with ⟨ry,I,A,rfl,k⟩|⟨A,rfl⟩
   ·refine zm rfl (zx rfl rfl (zx rfl rfl ?_));refine zAh rfl rfl a λT a3 o t F s a=>?_;have d:=d.q8 t;have k:=k.q8 t;have D:b≠T:=by have:=q.lt;omega
    have i2:=zdd p.lt F;have p:=p.k0 t;refine zss rfl rfl ao o rfl λo9 n V=>?_;(try simp only[qt] at n);have a:=a.s1 V;have p:=p.kq V;have d:=d.q9 o V an;have k:=k.q9 o V an;have o:=n;refine za rfl (zz (c4 (zc λ_ g9=>Sr λ_ g5=>zm rfl (zN rfl rfl (zm rfl (zw rfl (zm rfl (zw rfl (zN rfl rfl (ze rfl rfl (zz (g5 ?_))))))))))));refine CW.mQ rfl ?_;refine zkk (g9 ?_);refine zR λ_ e8=>?_;refine zm rfl (zg p rfl (zg o rfl ?_));refine WL.ev (Ev.build (vs:=_) (cs:=[_,_,_,_,_,_]) rfl rfl) rfl ?_;refine WL.buildSlice (m:=1) (cs:=[.bool dx.neg,rx,.int .i64 dx.e,.bool I.neg,ry,.int .i64 I.e]) oD oD rfl oR rfl λn4 e4 c6=>?_;have R:=c6.chg;have l0:BK e4 n4 _ [.bool dx.neg,rx,.int .i64 dx.e,.bool I.neg,ry,.int .i64 I.e]:=c6.at_;have a:=a.trans R;have d:=d.q8 R;have k:=k.q8 R;have d3:=RC.of_BK l0;refine WL.append (news:=[.bool dx.neg,rx,.int .i64 dx.e,.bool I.neg,ry,.int .i64 I.e]) (xs:=[]) (m:=0) (by rfl) oD rfl rfl ⟨rfl,.inl ⟨rfl,rfl⟩⟩ rfl d3 (by intro v hv;simp only[List.mem_cons,List.not_mem_nil,or_false] at hv;rcases hv with rfl|rfl|rfl|rfl|rfl|rfl<;>first|rfl|exact NU.one oA) oD oD rfl λp6 e3 i1 O o4=>?_;have O:Chg [] e4 e3:=by simpa[Value.ownBlock] using O
    have a:=a.trans O;have d:=d.q8 O;have k:=k.q8 O;rcases bnq i1 with ⟨_,h0,_⟩|⟨e0,b0,rfl,_,_,b7⟩
    · cases h0
    have r:RC e3 ⟨e0,0,none⟩ (clx dx I rx ry):=λj v hv=>by rw[axq,Nat.zero_add];exact b7 j v hv
    refine za rfl ?_;refine WL.nil (e8 _ _ _ (h2 ?_));refine zS λ_ e7=>?_;(first|refine zi rfl rfl ?_|refine zo rfl rfl ?_);refine zm rfl (zz (e7 ?_));refine ⟨rfl,(1,.slice (some ⟨e0,0,none⟩) 1 b0),?_,?_,?_⟩
    ·exact SLp
    ·exact ⟨Nat.le_refl 1,λh=>(by cases h),λ_=>⟨dx,I,e0,b0,rx,ry,J,A,rfl,r,d,k⟩,a⟩
    show 1-1<1-0;decide
   refine zm rfl (zx rfl rfl (zx rfl rfl ?_));refine zAh rfl rfl a λT a3 o t F s a=>?_;have D:b≠T:=by have:=q.lt;omega
   refine zss rfl rfl ao o rfl λo8 n k5=>?_;(try simp only[qt] at n);have a:=a.s1 k5;refine za rfl (zz (c4 (zc λ_ o0=>Sr λ_ g4=>zm rfl (zN rfl rfl (zm rfl (zw rfl (zm rfl (zw rfl (zN rfl rfl (ze rfl rfl (zz (g4 ?_))))))))))));refine CW.nJ rfl ?_;refine Sr λ_ g3=>za rfl (za rfl (zz (g3 ?_)));refine zr (zr2 rfl rfl rfl ?_);exact ⟨.inr (.inl ⟨Q,by first|exact .inl J|exact .inr A,rfl⟩),a⟩
  refine zm rfl (zx rfl rfl (zx rfl rfl ?_));refine zAh rfl rfl a λb9 l8 p x a7 a6 a=>?_;have y:=y.q8 x;have d4:b≠b9:=by have:=q.lt;omega
  have q:=q.q8 x;have b4:=zdd f.lt a7;have f:=f.k0 x;refine zss rfl rfl ao p rfl λo7 Z U=>?_;(try simp only[qt] at Z);have a:=a.s1 U;have q:=q.kq U;have f:=f.kq U;have y:=y.q9 p U an;refine za rfl (zz (c5 (Sr λ_ c3=>zf rfl (zf rfl (zl f rfl rfl (zf rfl (zf rfl (zl f rfl rfl (zf rfl (zf rfl (zl f rfl rfl ?_)))))))))));refine WL.call hasF178 rfl rfl (a9q nd vd ld ed _ y (d7.q8 a) k1) λv w4 h'=>?_;obtain ⟨a9,B⟩:=h';have a:=a.ta B;have q:=q.q8 B;rcases a9 with ⟨ry,I,A,rfl,k⟩|⟨A,rfl⟩
  ·refine zm rfl (zx rfl rfl (zx rfl rfl ?_));refine zAh rfl rfl a λT a3 o t F s a=>?_;have D:b≠T:=by have:=q.lt;omega
   refine zss rfl rfl ao o rfl λo6 n k4=>?_;(try simp only[qt] at n);have a:=a.s1 k4;refine za rfl (zz (c3 (zc λ_ n9=>Sr λ_ g2=>zm rfl (zN rfl rfl (zm rfl (zv rfl (zv rfl (zt rfl rfl (zz (g2 ?_))))))))));refine CW.nJ rfl ?_;refine Sr λ_ g1=>za rfl (za rfl (zz (g1 ?_)));refine zr (zr2 rfl rfl rfl ?_);exact ⟨.inr (.inl ⟨Q,by first|exact .inl J|exact .inr A,rfl⟩),a⟩
  refine zm rfl (zx rfl rfl (zx rfl rfl ?_));refine zAh rfl rfl a λT a3 o t F s a=>?_;have D:b≠T:=by have:=q.lt;omega
  refine zss rfl rfl ao o rfl λo5 n k3=>?_;(try simp only[qt] at n);have a:=a.s1 k3;refine za rfl (zz (c3 (zc λ_ n8=>Sr λ_ g0=>zm rfl (zN rfl rfl (zm rfl (zv rfl (zv rfl (zt rfl rfl (zz (g0 ?_))))))))));refine CW.nJ rfl ?_;refine Sr λ_ f9=>za rfl (za rfl (zz (f9 ?_)));refine zr (zr2 rfl rfl rfl ?_);exact ⟨.inr (.inl ⟨Q,by first|exact .inl J|exact .inr A,rfl⟩),a⟩
 have z:i=1:=by omega
 subst z;obtain ⟨dx,I,ad,c,rx,ry,i9,i8,rfl,r,d,k⟩:=ho rfl;refine CW.exit ?_;refine h6 (zc λ_ f8=>Sr λ_ f7=>zm rfl (zn rfl (zm rfl (zz (f7 (CW.block ?_))))));refine CW.loop (S:=λi:Nat=>[(6,.slice (some ⟨ad,0,none⟩) 1 c),(71,.slice (some ⟨ad,0,none⟩) 1 c),(72,.int .i64 1),(73,.int .i64 (i:Int))]) (Inv:=KF3 dx I rx ry ad w) (mu:=λi=>1-i) (0) ?_ ?_ ?_
 ·exact ⟨by decide,λh=>(by cases h),r,d,k,a⟩
 ·exact SLp
 rintro i wr ⟨d5,m6,r,d,k,a⟩;have p7:=r.lt (by simp[clx]);refine Sr λ_ f6=>zL rfl rfl (zz (f6 (zc λ_ f5=>?_)));refine zy rfl ?_ ?_<;>intro n0<;>try simp only[qs] at n0
 ·have z:i=0:=by omega
  subst z;refine zkk (f5 (zc λ_ f4=>CW.block (Sr λ_ f3=>?_)));refine WL.ev (Ev.indexAddr rfl rfl oO oO) rfl ?_;rw[show 0+((0:Nat):Int).toNat*6=0 from rfl];refine WL.ev (Ev.awj (cs:=clx dx I rx ry) rfl rfl rfl r) rfl ?_;unfold clx;refine WL.iZ (l:=[.bool false,.slice none 0 0,.int .i64 0,.bool false,.slice none 0 0,.int .i64 0]) rfl rfl λq4 n7 C H d6=>?_;have e1:=Nat.le_trans a.size d6;have a:=a.ta H;have r:=r.q8 H;have d:=d.q8 H;have k:=k.q8 H;refine zss rfl rfl ao C rfl λn5 a8 G=>?_;(try simp only[qt] at a8);have a:=a.s1 G;have r:=r.q9 C G an;have d:=d.q9 C G an;have k:=k.q9 C G an;have C:=a8;refine zz (f3 (Sr λ_ f2=>zf rfl ?_));refine WL.ev (Ev.fZ rfl rfl C rfl rfl) rfl ?_;simp only[List.drop_succ_cons,List.drop_zero,List.take_succ_cons,List.take_zero];refine WL.call hasF74 rfl rfl (akq I.neg ry (wd I.m) I.e _ k) λv w5 h'=>?_;obtain ⟨rfl,a0⟩:=h';rw[g7];have a:=a.ta a0;have r:=r.q8 a0;have d:=d.q8 a0;have k:=k.q8 a0;refine zq rfl rfl (zz (f2 ?_));refine zy rfl ?_ ?_<;>intro d8<;>try simp only[qs] at d8
  ·have a5:I.m=0:=bax.1 d8
   refine Sr λ_ f1=>za rfl (za rfl (zz (f1 ?_)));refine zr (zr2 rfl rfl rfl ?_);exact ⟨.inr (.inr (.inl ⟨Q,dx,I,i9,i8,a5,rfl⟩)),a⟩
  have a5:I.m≠0:=λe=>d8 (bax.2 e);refine zkk (f4 (zS λ_ e6=>?_));(first|refine zi rfl rfl ?_|refine zo rfl rfl ?_);refine zm rfl (zz (e6 ?_));refine ⟨rfl,1,?_,?_,?_⟩
  ·exact SLp
  ·exact ⟨by decide,λ_=>a5,r,d,k,a⟩
  decide
 have z:i=1:=by omega
 subst z;have a5:=m6 rfl;refine CW.exit ?_;refine f8 (Sr λ_ f0=>zm rfl (za rfl (za rfl (zz (f0 ?_)))));refine zr (zr2 rfl rfl rfl ?_);exact ⟨.inr (.inr (.inr ⟨Q,dx,I,i9,i8,a5,ad,c,rx,ry,rfl,r,d,k⟩)),a⟩
end
section
open Go Sx Wd
set_option exponentiation.threshold 5000
theorem d9x{neg:Bool}{n:Nat}{e:Int}{d:Dy}(h:cX neg n e=some d)(a:n≠0): ∃ t:Nat,n=d.m*2^t/\d.e=e+t/\d.neg=neg:=by
  unfold cX at h
  rw[if_neg a] at h
  split at h
  · cases h
  · cases h;exact ⟨tz n,(akj a).2,rfl,rfl⟩
theorem dy_congr{m:Nat}{e e':Int}{t:Nat}(a:e'=e+t):dyA m e'*dyB e=dyA (m*2^t) e*dyB e':=by
  unfold dyA dyB
  rw[Nat.mul_assoc,Nat.mul_assoc,Nat.mul_assoc,<- Nat.pow_add,<- Nat.pow_add,<- Nat.pow_add]
  congr 2
  omega
def bwq(nn nd:Bool)(ln ld:Nat)(en ed mode:Int)(bits:Nat)(e:Int):Prop:=
  (¬(0<=mode/\mode<=4)/\bits=0/\e=1)\/((0<=mode/\mode<=4)/\
    ((sgD nd ld<0/\bits=0/\e=1)\/(0<=sgD nd ld/\(cX nn ln en=none\/cX nd ld ed=none)/\bits=0/\e=2)\/
     (0<=sgD nd ld/\∃ x y,cX nn ln en=some x/\cX nd ld ed=some y/\((y.m=0/\bits=0/\e=21)\/
       (y.m≠0/\∃ r,mX (dyA x.m (x.e-y.e)) (y.m*dyB (x.e-y.e)) x.neg mode r/\r<=9218868437227405312/\bits=(if x.neg then r+9223372036854775808 else r)/\e=0)))))
theorem aboutD_ok{neg:Bool}{m:Nat}{cut:Bool}{e:Int}(h:m<2^82):(axj neg m cut e).ok:=by
  obtain ⟨d,a⟩:=chx (neg:=neg) (cut:=cut) (e:=e) h
  have:axj neg m cut e=d:=by unfold axj;rw[a];rfl
  rw[this];exact jZ a
theorem quot_round{x y:Dy}(H:x.ok)(U:y.ok)(g:y.m≠0){b a:Nat}{mode:Int}{bits:Nat}{e:Int}(C:0<=mode/\mode<=4)
    (k:cqq (x.m*2^(max 0 (-((bl x.m:Int)-(bl y.m:Int)))).toNat) (y.m*2^(max 0 ((bl x.m:Int)-(bl y.m:Int))).toNat) 82 b a)
    (F:cyq (cX (axj x.neg b (decide (a≠0)) ((bl x.m:Int)-(bl y.m:Int)-81+x.e-y.e)).neg (axj x.neg b (decide (a≠0)) ((bl x.m:Int)-(bl y.m:Int)-81+x.e-y.e)).m (axj x.neg b (decide (a≠0)) ((bl x.m:Int)-(bl y.m:Int)-81+x.e-y.e)).e) mode bits e) :
    ∃ r,mX (dyA x.m (x.e-y.e)) (y.m*dyB (x.e-y.e)) x.neg mode r/\r<=9218868437227405312/\bits=(if x.neg then r+9223372036854775808 else r)/\e=0:=by
  obtain ⟨d,i⟩:=chx (neg:=x.neg) (cut:=decide (a≠0)) (e:=(bl x.m:Int)-(bl y.m:Int)-81+x.e-y.e) k.w
  have p:axj x.neg b (decide (a≠0)) ((bl x.m:Int)-(bl y.m:Int)-81+x.e-y.e)=d:=by unfold axj;rw[i];rfl
  rw[p,nQ (jZ i)] at F
  rcases F with ⟨h,_⟩|⟨_,⟨h,_⟩|⟨X,r,h,j,I,u,D⟩⟩
  · exact absurd C h
  · cases h
  cases h
  by_cases h0:x.m=0
  · -- nought
    have G:=H.z h0
    have B:b=0/\a=0:=by
      obtain ⟨A,_⟩:=k.s oD
      rw[h0,Nat.zero_mul,Nat.zero_mul] at A
      have V:0<y.m*2^(max 0 ((bl 0:Int)-(bl y.m:Int))).toNat:=Nat.mul_pos oO (Nat.two_pow_pos _)
      have M:b*(y.m*2^(max 0 ((bl 0:Int)-(bl y.m:Int))).toNat)=0:=by omega
      rcases Nat.mul_eq_zero.1 M with q|q
      · exact ⟨q,by omega⟩
      · omega
    have o:abj b (decide (a≠0))=0:=by unfold abj;rw[B.1,B.2];rfl
    rw[o,kX] at i
    cases i
    have T:dyA Dy.zero.m Dy.zero.e=0:=by unfold dyA Dy.zero;simp
    rw[T] at j
    have n:=j.unique (zZ _) (cvx (zZ _) _ _)
    subst n
    have l:x.neg=false:=by rw[G];rfl
    refine ⟨0,?_,by decide,?_,D⟩
    · rw[h0,show dyA 0 (x.e-y.e)=0 by unfold dyA;simp]
      exact cvx (Nat.mul_pos oO (zZ _)) _ _
    · rw[u,l];rfl
  · have v:abj b (decide (a≠0))≠0:=by
      have J:=(cfj h0 g rfl).2
      have:=dig_size k oD J
      unfold abj
      omega
    obtain ⟨t,Q,O,A⟩:=d9x i v
    rw[A] at j u
    have f:=j.congr (B':=dyB (ahq ((bl x.m:Int)-(bl y.m:Int)-81+x.e-y.e))) (zZ _) (zZ _) (dy_congr O)
    rw[<- Q] at f
    refine ⟨r,near_quot (a:=a) h0 g rfl C k (e:=ahq ((bl x.m:Int)-(bl y.m:Int)-81+x.e-y.e)) (by unfold ahq;congr 2;omega) ?_,I,u,D⟩
    have R:abj b (decide (a≠0))=2*b+if a=0 then 0 else 1:=by
      unfold abj
      by_cases q:a=0
      · simp[q]
      · simp[q]
    rw[R] at f
    exact f
theorem rounded_spec(F G:Bool)(C D:Value)(ln ld:List Nat)(y z mode:Int)(w:World)(A:NU w C ln)(B:NU w D ld)(hg:GW w)(b7 : -9223372036854775808<=y/\y<=9223372036854775807)(b8 : -9223372036854775808<=z/\z<=9223372036854775807):Ret Tryz.prog 218 [.agg [.bool F,C,.int .i64 y,.bool G,D,.int .i64 z].toArray,.int .i64 mode,.bool false,.func (.func 76) #[] #[]] w λu w'=>(∃ bits e,u = .tuple [.float .f64 bits,.int .i64 e].toArray/\bwq F G (val ln) (val ld) y z mode bits e)/\Chg [] w w':=by
 have b:=crf w;have e0:=A.one;have e1:=B.one;have t:=hg;refine zE4 Tryz.func218 rfl ?_;refine Sr λ_ b2=>?_;refine zBh rfl rfl rfl b λb4 d2 b9 s d1 Z b=>?_;have A:=A.q8 s;have B:=B.q8 s;refine za rfl (za rfl (zz (b2 (zc λ_ b1=>?_))));refine CW.oX 17 (decide (¬(0<=mode/\mode<=4))) ?_ ?_
 ·refine zS λ_ H=>zm rfl (zL rfl rfl (zm rfl ?_));refine zb ?_ ?_<;>intro b6<;>try simp only[qs] at b6
  ·refine zv rfl (zv rfl (zt rfl rfl (zz (H ?_))));refine ⟨rfl,rfl,j0.g8 rfl ?_ ?_⟩
   ·first|(simp;omega)|(refine decide_eq_decide.2 ?_;omega)
   exact SMg
  refine zw rfl (zm rfl (zw rfl (zG rfl rfl (ze rfl rfl (zz (H ?_))))));refine ⟨rfl,rfl,j0.g8 rfl ?_ ?_⟩
  ·first|(simp;omega)|(refine decide_eq_decide.2 ?_;omega)
  exact SMg
 refine zy rfl ?_ ?_<;>intro x<;>try simp only[qs] at x
 ·have d : ¬(0<=mode/\mode<=4):=x
  refine Sr λ_ b0=>za rfl (za rfl (zz (b0 ?_)));refine zr (zr2 rfl rfl rfl ?_);refine ⟨⟨_,_,rfl,.inl ⟨d,rfl,rfl⟩⟩,b⟩
 have d:0<=mode/\mode<=4:=by have:=x;omega
 refine zkk (b1 (Sr λ_ l=>zg b9 rfl ?_));refine WL.buildSlice (m:=1) (cs:=[.bool F,C,.int .i64 y,.bool G,D,.int .i64 z]) oD oD rfl oR rfl λa6 a7 q=>?_;have g:=q.chg;have a0:BK a7 a6 161 [.bool F,C,.int .i64 y,.bool G,D,.int .i64 z]:=q.at_;have b:=b.trans g;have A:=A.q8 g;have B:=B.q8 g;refine WL.call hasF250 rfl rfl (forms_spec a6 F G C D ln ld y z _ a0 A B (t.q8 b) b7 b8) λv w1 h'=>?_;obtain ⟨hF,a5⟩:=h';have b:=b.ta a5;rcases hF with ⟨f,rfl⟩|⟨f,b5,rfl⟩|⟨f,k,p,o,n,h,rfl⟩|⟨f,k,p,o,n,h,gg,cc,rx,ry,rfl,b3,c2,c1⟩
 ·refine zm rfl (zx rfl rfl (zx rfl rfl (za rfl (za rfl (zz (l (zc λ_ d9=>CW.block (Sr λ_ Y=>zm rfl (zN rfl rfl (za rfl (zz (Y ?_))))))))))));refine CW.nJ rfl ?_;refine Sr λ_ X=>zm rfl (za rfl (za rfl (zz (X ?_))));refine zr (zr2 rfl rfl rfl ?_);refine ⟨⟨_,_,rfl,.inr ⟨d,.inl ⟨f,rfl,rfl⟩⟩⟩,b⟩
 ·refine zm rfl (zx rfl rfl (zx rfl rfl (za rfl (za rfl (zz (l (zc λ_ d0=>CW.block (Sr λ_ V=>zm rfl (zN rfl rfl (za rfl (zz (V ?_))))))))))));refine CW.nJ rfl ?_;refine Sr λ_ U=>zm rfl (za rfl (za rfl (zz (U ?_))));refine zr (zr2 rfl rfl rfl ?_);refine ⟨⟨_,_,rfl,.inr ⟨d,.inr (.inl ⟨f,b5,rfl,rfl⟩)⟩⟩,b⟩
 ·refine zm rfl (zx rfl rfl (zx rfl rfl (za rfl (za rfl (zz (l (zc λ_ c9=>CW.block (Sr λ_ T=>zm rfl (zN rfl rfl (za rfl (zz (T ?_))))))))))));refine CW.nJ rfl ?_;refine Sr λ_ R=>zm rfl (za rfl (za rfl (zz (R ?_))));refine zr (zr2 rfl rfl rfl ?_);refine ⟨⟨_,_,rfl,.inr ⟨d,.inr (.inr ⟨f,k,p,o,n,.inl ⟨h,rfl,rfl⟩⟩)⟩⟩,b⟩
 have j:=jZ o;have i:=jZ n;refine zm rfl (zx rfl rfl (zx rfl rfl (za rfl (za rfl (zz (l (zc λ_ Q=>CW.block (Sr λ_ O=>zm rfl (zN rfl rfl (za rfl (zz (O ?_))))))))))));refine CW.mQ rfl ?_;refine Sr λ_ M=>zm rfl (zm rfl (zv rfl (zv rfl (zv rfl (zv rfl (zv rfl (ze rfl rfl (za rfl (zz (M ?_))))))))));refine CW.mQ rfl ?_;refine Sr λ_ J=>zm rfl (za rfl (zz (J ?_)));refine CW.mQ rfl ?_;refine zkk (Q (Sr λ_ I=>zm rfl (zm rfl ?_)));refine WL.ev (Ev.indexAddr rfl rfl oO oO) rfl ?_;rw[show 0+(0:Int).toNat*6=0 from rfl];refine WL.ev (Ev.awj (cs:=clx k p rx ry) rfl rfl rfl b3) rfl ?_;unfold clx;refine WL.call hasF252 rfl rfl (d1x k.neg p.neg rx ry k.m p.m k.e p.e _ c2 c1 j.len i.len h j.e i.e (t.q8 b)) λv w2 h'=>?_;obtain ⟨⟨c6,a,⟨rq,rfl,c3⟩,a2⟩,a4⟩:=h';have b:=b.ta a4;refine zm rfl ?_;refine WL.callV (cap:=[]) hasF76 rfl rfl rfl (by rw[List.append_nil];exact c2j _ _ _ _ mode _ c3 (t.q8 b) (by have:=(aboutD_ok (neg:=k.neg) (cut:=decide (a≠0)) (e:=(bl k.m:Int)-(bl p.m:Int)-81+k.e-p.e) a2.w).e;omega)) λd4 d3 c4=>?_;obtain ⟨⟨bits,ee,rfl,a1⟩,a3⟩:=c4;have b:=b.trans a3;rw[g7] at a1;refine zx rfl rfl (zx rfl rfl (za rfl (za rfl (zz (I ?_)))));refine zr (zr2 rfl rfl rfl ?_);obtain ⟨r,q1,q2,q3,q4⟩:=quot_round j i h d a2 a1;refine ⟨⟨_,_,rfl,.inr ⟨d,.inr (.inr ⟨f,k,p,o,n,.inr ⟨h,r,q1,q2,q3,q4⟩⟩)⟩⟩,b⟩
theorem b8q(l m:Bool)(j k:Value)(n o:List Nat)(f g mode:Int)(w:World)(h:NU w j n)(i:NU w k o)(D:GW w)(s : -9223372036854775808<=f/\f<=9223372036854775807)(t : -9223372036854775808<=g/\g<=9223372036854775807):Ret Tryz.prog 146 [.agg [.bool l,j,.int .i64 f,.bool m,k,.int .i64 g].toArray,.int .i64 mode] w λu w'=>(∃ bits e,u = .tuple [.float .f64 bits,.int .i64 e].toArray/\bwq l m (val n) (val o) f g mode bits e)/\Chg [] w w':=by
 have a:=crf w;have B:=h.one;have C:=i.one;have r:=D;refine zE2 Tryz.func146 rfl ?_;refine Sr λ_ q=>?_;refine zBh rfl rfl rfl a λI A x b z d a=>?_;have h:=h.q8 b;have i:=i.q8 b;refine za rfl (za rfl (zz (q (Sr λ_ p=>zg x rfl (zm rfl ?_)))));refine WL.call hasF218 rfl rfl (rounded_spec l m j k n o f g mode _ h i (r.q8 a) s t) λv H G=>?_;obtain ⟨⟨bits,e,rfl,F⟩,y⟩:=G;have a:=a.ta y;refine zx rfl rfl (zx rfl rfl (za rfl (za rfl (zz (p ?_)))));refine zr (zr2 rfl rfl rfl ?_);exact ⟨⟨_,_,rfl,F⟩,a⟩
end
section
open Go Sx Wd
set_option exponentiation.threshold 9000
def fvN(x:Nat):Nat:=if (g6 x).cls=1\/(g6 x).cls=2 then (g6 x).frac*2^((g6 x).exp+2148).toNat else 0
def fvI(x:Nat):Int:=if (g6 x).neg=true then -(fvN x:Int) else (fvN x:Int)
theorem b64(e:Nat):18446744073709551616^(e/64)*2^(e%64)=2^e:=by
  rw[show (18446744073709551616:Nat)=2^64 from rfl,<- Nat.pow_mul,<- Nat.pow_add]
  congr 1;omega
theorem fvN_lt(x:Nat):fvN x<2^3172:=by
  unfold fvN
  split
  · rename_i h
    obtain ⟨g,f,e,d⟩:=ceq h
    have b:2^((g6 x).exp+2148).toNat<=2^3119:=Nat.pow_le_pow_right oD oO
    have a:(g6 x).frac*2^((g6 x).exp+2148).toNat<9007199254740992*2^3119:=Nat.lt_of_lt_of_le (Nat.mul_lt_mul_of_pos_right d (Nat.two_pow_pos _)) (Nat.mul_le_mul_left _ b)
    rw[show (9007199254740992:Nat)=2^53 from rfl,<- Nat.pow_add] at a
    exact a
  · exact Nat.two_pow_pos _
theorem daq{x y:Nat}(q:(g6 x).cls<=2)(o:(g6 y).cls<=2):thv (dlj x y)*(2^2148:Nat)=fvI x*fvI y:=by
  unfold dlj
  rw[if_neg oO,if_neg oO]
  by_cases h:(g6 x).cls=0\/(g6 y).cls=0
  · rw[if_pos h]
    have e:fvN x=0\/fvN y=0:=by
      unfold fvN
      rcases h with h|h
      · left;rw[if_neg oO]
      · right;rw[if_neg oO]
    have i:fvI x*fvI y=0:=by
      unfold fvI
      rcases e with e|e
      · rw[e];simp
      · rw[e];simp
    rw[i]
    unfold thv
    simp
  · rw[if_neg h]
    have b:(g6 x).cls=1\/(g6 x).cls=2:=by omega
    have a:(g6 y).cls=1\/(g6 y).cls=2:=by omega
    obtain ⟨u,t,s,r⟩:=ceq b
    obtain ⟨n,m,l,k⟩:=ceq a
    unfold thv
    dsimp only
    rw[if_pos (.inr rfl),laidW_val (Nat.mod_lt _ oD) (Nat.mod_lt _ oD)]
    have j:(g6 x).frac*(g6 y).frac/18446744073709551616*18446744073709551616+(g6 x).frac*(g6 y).frac%18446744073709551616=(g6 x).frac*(g6 y).frac:=Nat.div_add_mod' ..
    rw[j]
    have e:(g6 x).frac*(g6 y).frac*2^(((g6 x).exp+(g6 y).exp+2148).toNat%64)*18446744073709551616^(((g6 x).exp+(g6 y).exp+2148).toNat/64)*2^2148=fvN x*fvN y:=by
      unfold fvN
      rw[if_pos b,if_pos a]
      have g:=b64 ((g6 x).exp+(g6 y).exp+2148).toNat
      have f:2^((g6 x).exp+(g6 y).exp+2148).toNat*2^2148=2^((g6 x).exp+2148).toNat*2^((g6 y).exp+2148).toNat:=by
        rw[<- Nat.pow_add,<- Nat.pow_add];congr 1;omega
      calc _=(g6 x).frac*(g6 y).frac*((18446744073709551616^(((g6 x).exp+(g6 y).exp+2148).toNat/64)*2^(((g6 x).exp+(g6 y).exp+2148).toNat%64))*2^2148):=by ac_rfl
        _=(g6 x).frac*(g6 y).frac*(2^((g6 x).exp+2148).toNat*2^((g6 y).exp+2148).toNat):=by rw[g,f]
        _=_:=by ac_rfl
    generalize (g6 x).frac*(g6 y).frac*2^(((g6 x).exp+(g6 y).exp+2148).toNat%64)*18446744073709551616^(((g6 x).exp+(g6 y).exp+2148).toNat/64)=p at e
    have d:(p:Int)*(2^2148:Nat)=(fvN x:Int)*(fvN y:Int):=by rw[<- Int.natCast_mul,e,Int.natCast_mul]
    unfold fvI
    cases (g6 x).neg<;>cases (g6 y).neg<;>simp only[bne_self_eq_false,Bool.true_bne,Bool.false_bne,Bool.not_false,Bool.not_true,if_true,if_false,Bool.false_eq_true,Int.neg_mul,Int.mul_neg,Int.neg_neg]<;>rw[d]
theorem czq{x y:Nat}(e:(g6 x).cls<=2)(d:(g6 y).cls<=2):(thv (dlj x y)).natAbs<2^4196:=by
  have h:=daq e d
  have i:=fvN_lt x
  have g:=fvN_lt y
  have f:(fvI x*fvI y).natAbs=fvN x*fvN y:=by
    rw[Int.natAbs_mul]
    unfold fvI
    split<;>split<;>simp
  have b:fvN x*fvN y<2^3172*2^3172:=Nat.mul_lt_mul_of_lt_of_lt i g
  rw[<- Nat.pow_add] at b
  rw[<- f,<- h,Int.natAbs_mul,Int.natAbs_natCast] at b
  apply Nat.lt_of_mul_lt_mul_right (a:=2^2148)
  rw[<- Nat.pow_add];exact b
def ayj(l:List Nat):Int:=(l.map fvI).sum
theorem fvI_abs(x:Nat):(fvI x).natAbs=fvN x:=by unfold fvI;split<;>simp
theorem sumI_le : ∀ (l:List Nat),(ayj l).natAbs<=l.length*2^3172
  | []=>by simp[ayj]
  | x::l=>by
    have h1:=sumI_le l
    have h2:=fvN_lt x
    have h3:=fvI_abs x
    have e:ayj (x::l)=fvI x+ayj l:=by simp[ayj]
    rw[e,List.length_cons,Nat.add_mul,Nat.one_mul]
    generalize 2^3172=B at *
    generalize l.length*B=C at *
    omega
theorem b4x:16384*BB=2^4238:=by
  unfold BB
  rw[show (18446744073709551616:Nat)=2^64 from rfl,<- Nat.pow_mul,show (16384:Nat)=2^14 from rfl,<- Nat.pow_add]
theorem sumI_in{l:List Nat}(h:l.length<=1099511627776): -((16384*BB:Nat):Int)<ayj l/\ayj l<(16384*BB:Nat):=by
  have d:=sumI_le l
  have a:l.length*2^3172<2^41*2^3172:=Nat.mul_lt_mul_of_pos_right oO (Nat.two_pow_pos _)
  rw[<- Nat.pow_add] at a
  have b:2^(41+3172)<=16384*BB:=by rw[b4x];exact Nat.pow_le_pow_right oD oD
  generalize 16384*BB=M at *
  generalize 2^(41+3172)=M2 at *
  omega
end
section
open Go Sx Wd
set_option exponentiation.threshold 5000
theorem clean_spec(g k x:Nat)(e:Int)(w:World)(j:BK w g 31 [.float .f64 x])(h:BK w k 47 [.int .i64 e])(p:g≠k):d2q Tryz.prog 176 [.pointer (some ⟨g,0,none⟩),.pointer (some ⟨k,0,none⟩)] w λu w'=>BK w' g 31 [.float .f64 (if e=0 then x else 0)]/\BK w' k 47 [.int .i64 e]/\Chg [g] w w':=by
  have b:Chg [g] w w:=Chg.refl _ _
  refine d2q.enter Tryz.func176 rfl rfl ?_
  simp only[b2j,Nat.zero_add,Nat.reduceAdd]
  refine Sq λ_ n _ m=>?_
  refine Mv rfl rfl ?_
  refine WL.ev (Ev.nilPtr rfl) rfl ?_
  refine WL.ev (Ev.load rfl rfl (h.at_ rfl)) rfl ?_
  refine WL.ev (Ev.neq rfl rfl) rfl ?_
  refine WL.nil (m _ _ _ (n _ _ _ ?_))
  refine zy rfl (λa=>?_) λa=>?_
  ·
    (try simp only[qs] at a)
    have f:e≠0:=a
    refine zR λ_ l=>?_
    refine Mv rfl rfl ?_
    refine WL.ev (Ev.nilPtr rfl) rfl ?_
    refine WL.bJ rfl rfl o1 j oS rfl λo i d=>?_
    (try simp only[qt] at i)
    have b:=b.s1 d
    have h:=h.kq d
    have j:=i
    refine WL.nil (l _ _ _ ?_)
    refine k9.c1x rfl ?_
    refine ⟨?_,h,b⟩
    rw[if_neg f];exact j
  ·
    (try simp only[qs] at a)
    have f:e=0:=by have:=a;omega
    refine zkk ?_
    refine k9.c1x rfl ?_
    refine ⟨?_,h,b⟩
    rw[if_pos f];exact j
theorem cgx{fn:Func}{n:Nat}{s:Sl}{w:World}{R:Value->World->Prop}{g f a b x:Nat}{e:Int}(k:fn.results = #[.cell g 31,.cell f 47])(j:Sx.look s g=some (.pointer (some ⟨a,0,none⟩)))(i:Sx.look s f=some (.pointer (some ⟨b,0,none⟩)))
    (m:BK w a 31 [.float .f64 x]) (l:BK w b 47 [.int .i64 e]) (d:a≠b) (h : ∀ w',Chg [a] w w'->R (.tuple [.float .f64 (if e=0 then x else 0),.int .i64 e].toArray) w') :
    ebj Tryz.prog fn n 176 R .ret [⟨.fn (.func 176) #[],[.pointer (some ⟨a,0,none⟩),.pointer (some ⟨b,0,none⟩)].toArray⟩] s w:=
  ebj.iX k rfl ((clean_spec a b x e w m l d).mono λ_ w' ⟨q6,q7,hc⟩=>⟨_,_,aZ.cell j (q6.var1 rfl rfl),aZ.cell i (q7.var1 rfl rfl),h w' hc⟩)
theorem right_spec(mode:Int)(w:World):Ret Tryz.prog 177 [.int .i64 mode] w λu w'=>u = .bool (decide (0<=mode/\mode<=4))/\w=w':=by
 refine zE1 Tryz.func177 rfl ?_;refine Sr λ_ d=>za rfl (zz (d (Sr λ_ b=>zm rfl ?_)));refine WL.ev (Ev.geq rfl rfl) rfl ?_;refine zm rfl ?_;refine zb ?_ ?_<;>intro a<;>try simp only[qs] at a
 ·have e:0<=mode:=a
  refine zw rfl (zm rfl (zw rfl (zQ rfl rfl (zt rfl rfl (za rfl (zz (b ?_)))))));refine zr (zr1 rfl rfl ?_);refine ⟨congrArg Value.bool (decide_eq_decide.2 oO),rfl⟩
 have e : ¬0<=mode:=by have:=a;omega
 refine zv rfl (zv rfl (ze rfl rfl (za rfl (zz (b ?_)))));refine zr (zr1 rfl rfl ?_);refine ⟨?_,rfl⟩;rw[decide_eq_false oO]
def toldR(d:Dy)(n:Nat)(s:SP)(mode:Int)(bits:Nat)(e:Int):Prop:=
  (d.m=0/\bits=adq s mode/\e=0)\/(d.m≠0/\bwq d.neg (cJ n).neg d.m (cJ n).m d.e (cJ n).e mode bits e)
theorem xZ{n:Int}(h:n.natAbs<18446744073709551616):(cJ n).ok:=jZ (bhx h)
theorem ok_e{d:Dy}(h:d.ok): -9223372036854775808<=d.e/\d.e<=9223372036854775807:=by have:=h.e;omega
theorem told_spec(d:Dy)(r:Value)(n:Nat)(s:SP)(mode:Int)(w:World)(h:NU w r (wd d.m))(R:d.ok)(hn:n<=1099511627776)(hs:s.le 1000000000000000)(hg:GW w):Ret Tryz.prog 179 [.agg [.bool d.neg,r,.int .i64 d.e].toArray,.int .i64 (n:Int),.agg [.int .i64 (s.na:Int),.int .i64 (s.up:Int),.int .i64 (s.dn:Int),.int .i64 (s.mi:Int),.int .i64 (s.pl:Int),.int .i64 (s.al:Int)].toArray,.int .i64 mode] w λu w'=>(∃ bits e,u = .tuple [.float .f64 bits,.int .i64 e].toArray/\toldR d n s mode bits e)/\Chg [] w w':=by
 have a:=crf w;have a2:=h.one;have A:=hg;refine zE4 Tryz.func179 rfl ?_;refine Sr λ_ O=>?_;refine zBh rfl rfl rfl a λb4 Y b B U y a=>?_;have h:=h.q8 B;refine zBh rfl rfl rfl a λb6 X p j z x a=>?_;have h:=h.q8 j;have F:=zdd b.lt z;have b:=b.k0 j;refine za rfl (za rfl (zz (O (zc λ_ M=>Sr λ_ J=>zg b rfl ?_))));refine WL.call hasF74 rfl rfl (akq d.neg r (wd d.m) d.e _ h) λv w1 t=>?_;obtain ⟨rfl,g⟩:=t;rw[g7];have a:=a.ta g;have b:=b.k0 g;have p:=p.k0 g;have h:=h.q8 g;refine zq rfl rfl (zz (J ?_));refine zy rfl ?_ ?_<;>intro o<;>try simp only[qs] at o
 ·have T:d.m=0:=bax.1 o
  refine Sr λ_ I=>zg p rfl (zm rfl ?_);refine WL.call hasF75 rfl rfl (b3j s mode _ hs) λv w2 t=>?_;obtain ⟨rfl,D⟩:=t;have a:=a.ta D;refine za rfl (za rfl (zz (I ?_)));refine zr (zr2 rfl rfl rfl ?_);exact ⟨⟨_,_,rfl,.inl ⟨T,rfl,rfl⟩⟩,a⟩
 have T:d.m≠0:=λe=>o (bax.2 e);refine zkk (M (zc λ_ H=>?_));refine CW.cQ 10 rfl dZ λa0 G f l=>?_;have a:=a.ta l;have b:=b.k0 l;have h:=h.q8 l;have q:=b;refine wh 0 rfl f (λ_ Q=>Ev.rZ rfl rfl (q.q8 Q) rfl) (wh 1 rfl f (eM rfl) (wh 4 rfl f (eM rfl) ?_));refine WH.k7 2 rfl oR hasF144 rfl rfl (bdj (n:Int) _ (A.q8 a) oO) λv w3 t=>?_;obtain ⟨⟨Z,rfl,C⟩,i⟩:=t;have a:=a.ta i;have h:=h.q8 i;have f:=f.trans i;refine ⟨f,?_⟩;refine wh 3 rfl f (λ_ _=>Ev.build (vs:=_) (cs:=[_,_,_,_,_,_]) rfl rfl) ?_;refine WH.k7 5 rfl oR hasF146 rfl rfl (b8q d.neg (cJ n).neg r Z (wd d.m) (wd (cJ n).m) d.e (cJ n).e mode _ h C (A.q8 a) (ok_e R) (ok_e (xZ oO))) λv w4 t=>?_;obtain ⟨⟨bits,e,rfl,V⟩,k⟩:=t;rw[g7,g7] at V;have a:=a.ta k;have f:=f.trans k;refine ⟨f,?_⟩;refine wh 6 rfl f (eX rfl rfl) (wh 7 rfl f (eX rfl rfl) (wh 8 rfl f (eA rfl) (wh 9 rfl f (eA rfl) ?_)));refine WH.done oR (G _ _ _ ?_);refine H ?_;refine zr (zr2 rfl rfl rfl ?_);exact ⟨⟨_,_,rfl,.inr ⟨T,V⟩⟩,a⟩
end
section
open Go Sx Wd
set_option exponentiation.threshold 5000
def isF64:Value->Bool
  | .float .f64 _=>true
  | _=>false
theorem bwq.err{a b:Bool}{d f:Nat}{g i mode:Int}{bits:Nat}{e:Int}(h:bwq a b d f g i mode bits e):(if e=0 then bits else 0)=bits:=by
  rcases h with ⟨_,rfl,rfl⟩|⟨_,⟨_,rfl,rfl⟩|⟨_,_,rfl,rfl⟩|⟨_,x,y,_,_,⟨_,rfl,rfl⟩|⟨_,r,_,_,_,rfl⟩⟩⟩<;>simp
theorem toldR.err{d:Dy}{n:Nat}{s:SP}{mode:Int}{bits:Nat}{e:Int}(h:toldR d n s mode bits e):(if e=0 then bits else 0)=bits:=by
  rcases h with ⟨_,_,rfl⟩|⟨_,h⟩
  · simp
  · exact h.err
def meanR(l:List Nat)(mode pn pi:Int)(bits:Nat)(e:Int):Prop:=
  (¬(0<=mode/\mode<=4)/\bits=0/\e=1)\/((0<=mode/\mode<=4)/\
    ((a2x l pn pi≠0/\bits=0/\e=a2x l pn pi)\/(a2x l pn pi=0/\
      ((lZ (a7q l) pn pi=some bits/\e=0)\/(lZ (a7q l) pn pi=none/\
        ((bjj l=[]/\bits=0/\e=3)\/(bjj l≠[]/\toldR (fQ (ayj (bjj l))) (bjj l).length (a7q l) mode bits e)))))))
end
namespace Fl
open Go
def isNaN(b:Nat):Bool:=decide (9218868437227405312<b%9223372036854775808)
def canon(b:Nat):Nat:=if isNaN b then 9221120237041090560 else b
def key(b:Nat):Int:=if isNaN b then 9223372036854775807 else if 9223372036854775808<=b then -1-((b:Int)-9223372036854775808) else b
def place(b:Nat):Int:=if 9223372036854775808<=canon b then -1-((canon b:Int)-9223372036854775808) else canon b
def c4x(a b:Int):Int:=if a<b then -1 else if b<a then 1 else 0
theorem bhq:Ieee.double.signWeight=9223372036854775808:=by decide
theorem buq:Ieee.double.infRung=9218868437227405312:=by decide
theorem buj:Ieee.double.binade=4503599627370496:=by decide
theorem cmp_self(x:Int):compare x x = .eq:=by simp
theorem cmpN_self(x:Nat):compare x x = .eq:=by simp
theorem btj(b:Nat):(FloatKind.f64.format.order b b != some .eq)=isNaN b:=by
  show ((Ieee.double.read b).order (Ieee.double.read b) != some .eq)=isNaN b
  unfold Ieee.Format.read isNaN
  simp only[bhq,buq,buj]
  split
  · rename_i h
    have a:decide (9218868437227405312<b%9223372036854775808)=false:=by simp;omega
    rw[a]
    simp[Ieee.Datum.order,cmp_self]
  · split
    · rename_i h h'
      have a:decide (9218868437227405312<b%9223372036854775808)=false:=by simp;omega
      rw[a]
      simp[Ieee.Datum.order,cmp_self]
    · split
      · rename_i h h' h3
        have a:decide (9218868437227405312<b%9223372036854775808)=false:=by simp;omega
        rw[a]
        simp[Ieee.Datum.order,cmpN_self]
      · rename_i h h' h3
        have a:decide (9218868437227405312<b%9223372036854775808)=true:=by simp;omega
        rw[a]
        simp[Ieee.Datum.order]
theorem caj(b:Nat):(FloatKind.f64.format.order b b==some .eq) = !isNaN b:=by
  rw[<- btj b];simp[bne]
theorem signed_zero(k:Nat):Ieee.signed false 0 k=0:=by simp[Ieee.signed]
theorem signed_eq(s:Bool)(m k:Nat):Ieee.signed s m k=0↔m=0:=by
  have b:0<2^k:=Nat.two_pow_pos k
  have a:m*2^k=0↔m=0:=by
    constructor
    · intro h;rcases Nat.mul_eq_zero.1 h with h|h
      · exact h
      · omega
    · intro h;simp[h]
  unfold Ieee.signed
  rw[Nat.shiftLeft_eq]
  split<;>omega
theorem cmp_eq(x y:Int):(some (compare x y)==some Ordering.eq)=decide (x=y):=by
  rw[Bool.eq_iff_iff];simp
theorem d7x(s:Bool)(m:Nat)(i:Int)(j:Int):(Ieee.Datum.order (.number s m i) (.number false 0 j)==some .eq)=decide (m=0):=by
  unfold Ieee.Datum.order
  simp only[signed_zero]
  rw[cmp_eq,Bool.eq_iff_iff]
  simp[signed_eq]
theorem read_zero:Ieee.double.read 0 = .number false 0 Ieee.double.leastPlace:=by decide
theorem order_zero(b:Nat):(FloatKind.f64.format.order b 0==some .eq)=decide (b%9223372036854775808=0):=by
  show ((Ieee.double.read b).order (Ieee.double.read 0)==some .eq)=_
  rw[read_zero]
  unfold Ieee.Format.read
  simp only[bhq,buq,buj]
  split
  · rw[d7x]
  · split
    · rename_i h h'
      rw[d7x,Bool.eq_iff_iff]
      simp;omega
    · split
      · rename_i h h' h3
        have a:decide (b%9223372036854775808=0)=false:=by simp;omega
        rw[a]
        simp only[Ieee.Datum.order]
        split<;>rfl
      · rename_i h h' h3
        have a:decide (b%9223372036854775808=0)=false:=by simp;omega
        rw[a]
        rfl
theorem canon_lt{b:Nat}(h:b<18446744073709551616):canon b<18446744073709551616:=by
  unfold canon;split<;>omega
theorem key_pos_eq{b:Nat}(a:isNaN b=false)(h:b<9223372036854775808):key b=b:=by
  unfold key;rw[a];simp;omega
theorem key_neg_eq{b:Nat}(a:isNaN b=false)(h:9223372036854775808<=b):key b = -1-((b:Int)-9223372036854775808):=by
  unfold key;rw[a];simp;omega
end Fl
section
open Go Sx Wd
theorem cpx(x:Nat):(g6 x).cls<=2↔x%9223372036854775808<9218868437227405312:=by
  have e:x%9223372036854775808<9218868437227405312↔x/4503599627370496%2048≠2047:=by omega
  rw[e]
  unfold g6
  split
  · rename_i h;simp;exact h.1
  · split
    · rename_i h1 h;simp;exact h
    · split
      · rename_i h2 h1 h;simp;exact h1
      · split
        · rename_i h2 h1 h;simp;exact h2
        · rename_i h2 h1 h;simp;exact h2
section
variable {P:Program} {n:Nat} {D:List Deferred} {s:Sl} {w:World} {ops:Array Oper} {K:KK} {rest:List Oper} {ty:TypeId} {pos:String} {af:Array Edge} {d:Nat} {x y:Operand}
end
end
section
open Go Sx Wd
set_option exponentiation.threshold 5000
def finL(l:List Nat):Prop:=∀ x∈l,(g6 x).cls<=2
instance (l:List Nat):Decidable (finL l):=by unfold finL;exact inferInstance
end
section
open Go Sx Wd
set_option exponentiation.threshold 5000
theorem d3q:fQ 0=Dy.zero:=rfl
theorem d3j{S:Int}(b : -((16384*BB:Nat):Int)<S)(a:S<(16384*BB:Nat))(d:S≠0):fQ S=⟨decide (S<0),S.natAbs/2^tz S.natAbs,-2148+tz S.natAbs⟩:=by
  unfold fQ
  rw[c6q b a,if_neg d];rfl
theorem sumD_m0{S:Int}(b : -((16384*BB:Nat):Int)<S)(a:S<(16384*BB:Nat)):(fQ S).m=0↔S=0:=by
  constructor
  · intro h
    apply Classical.byContradiction
    intro d
    rw[d3j b a d] at h
    have:=(akj (n:=S.natAbs) oO).1
    simp only at h
    rw[h] at this;cases this
  · intro h;rw[h];rfl
theorem sumD_sg{S:Int}(b : -((16384*BB:Nat):Int)<S)(a:S<(16384*BB:Nat)):sgD (fQ S).neg (fQ S).m=if S<0 then -1 else if S=0 then 0 else 1:=by
  by_cases h0:S=0
  · subst h0;rfl
  · have d:(fQ S).m≠0:=λe=>h0 ((sumD_m0 b a).1 e)
    unfold sgD
    rw[if_neg d,d3j b a h0]
    by_cases h:S<0
    · simp[h]
    · simp[h,h0]
end
section
open Go Sx Wd
set_option exponentiation.threshold 5000
theorem NF.adx{w:World}{a:Option Addr}{l:List Nat}{k c:Nat}(h:RW w a (l.map bkx))(b : ∀ x∈l,x<18446744073709551616)(d:l.length<=70368744177664)(e:k=l.length)(f:k<=c):NF w (.slice a k c) l:=by
  subst e
  exact ⟨⟨a,c,rfl,f,h⟩,b,d⟩
def ofR(neg:Bool)(m:Nat)(ex n mode:Int)(bits:Nat)(e:Int):Prop:=
  (¬((0<=mode/\mode<=4)/\1<=n/\n<=1099511627776)/\bits=0/\e=1)\/(((0<=mode/\mode<=4)/\1<=n/\n<=1099511627776)/\
    ((cX neg m ex=none/\bits=0/\e=2)\/∃ d,cX neg m ex=some d/\toldR d n.toNat SP.zero mode bits e))
theorem mOf_spec(na:Bool)(va:Value)(la:List Nat)(ea n mode:Int)(w:World)(O:NU w va la)(hg:GW w)(c8 : -9223372036854775808<=ea/\ea<=9223372036854775807):Ret Tryz.prog 101 [.agg [.bool na,va,.int .i64 ea].toArray,.int .i64 n,.int .i64 mode] w λu w'=>(∃ bits e,u = .tuple [.float .f64 bits,.int .i64 e].toArray/\ofR na (val la) ea n mode bits e)/\Chg [] w w':=by
 have a:=crf w;have a6:=hg;have e7:=O.one;have e9:=O;refine Ret.enterD 176 hasF176 Tryz.func101 rfl rfl ?_;simp only[b2j,Nat.zero_add,Nat.reduceAdd];refine Sr λ_ c5=>?_;refine zBh rfl rfl rfl a λb3 e5 h a7 e1 a5 a=>?_;have O:=O.q8 a7;refine WL.iZ (l:=[.float .f64 0]) rfl rfl λb6 e4 f H R=>?_;have a4:=Nat.le_trans a.size R;have a:=a.ta H;have O:=O.q8 H;have b4:=zdd h.lt R;have h:=h.k0 H;refine WL.iZ (l:=[.int .i64 0]) rfl rfl λb7 e3 b p x=>?_;have a3:=Nat.le_trans a.size x;have a:=a.ta p;have O:=O.q8 p;have b2:=zdd h.lt x;have h:=h.k0 p;have j:=zdd f.lt x;have f:=f.k0 p;refine zz (c5 (Sr λ_ c4=>?_));refine WL.defer rfl ?_;refine zz (c4 (zc λ_ c3=>?_));refine CW.oX 18 (decide (¬((0<=mode/\mode<=4)/\1<=n/\n<=1099511627776))) ?_ ?_
 ·refine zS λ_ T=>zm rfl ?_;refine WL.call hasF177 rfl rfl (right_spec mode _) λv w1 h'=>?_;obtain ⟨rfl,rfl⟩:=h';refine zT rfl (zm rfl ?_);refine zb ?_ ?_<;>intro U<;>try simp only[qs] at U
  ·have hq : ¬(0<=mode/\mode<=4):=by simpa using U
   refine zv rfl (zv rfl (zt rfl rfl (zm rfl (zv rfl (zv rfl (zt rfl rfl (zz (T ?_))))))));refine ⟨rfl,rfl,j0.g8 rfl ?_ ?_⟩
   ·first|(simp;omega)|(refine decide_eq_decide.2 ?_;omega)
   exact SMg
  have hq:0<=mode/\mode<=4:=by simpa using U
  refine zw rfl (zm rfl (zw rfl (zL rfl rfl (ze rfl rfl (zm rfl ?_)))));refine zb ?_ ?_<;>intro c7<;>try simp only[qs] at c7
  ·refine zv rfl (zv rfl (zt rfl rfl (zz (T ?_))));refine ⟨rfl,rfl,j0.g8 rfl ?_ ?_⟩
   ·first|(simp;omega)|(refine decide_eq_decide.2 ?_;omega)
   exact SMg
  refine zw rfl (zm rfl (zw rfl (zG rfl rfl (ze rfl rfl (zz (T ?_))))));refine ⟨rfl,rfl,j0.g8 rfl ?_ ?_⟩
  ·first|(simp;omega)|(refine decide_eq_decide.2 ?_;omega)
  exact SMg
 refine zy rfl ?_ ?_<;>intro V<;>try simp only[qs] at V
 ·have a8 : ¬((0<=mode/\mode<=4)/\1<=n/\n<=1099511627776):=V
  refine Sr λ_ c2=>?_;refine WL.bJ rfl rfl o1 f oS rfl λd8 i G=>?_;(try simp only[qt] at i);have a:=a.s1 G;have b:=b.kq G;have f:=i;refine WL.bJ rfl rfl o1 b oS rfl λd7 g F=>?_;(try simp only[qt] at g);have a:=a.s1 F;have f:=f.kq F;have b:=g;refine zz (c2 ?_);refine zr ?_;refine cgx rfl rfl rfl f b j λw9 I=>?_;have a:=a.step I (λy Q=>by simp only[List.mem_singleton] at Q;subst Q;exact .inr oO);exact ⟨⟨_,_,rfl,.inl ⟨a8,rfl,rfl⟩⟩,a⟩
 have t:(0<=mode/\mode<=4)/\1<=n/\n<=1099511627776:=by have:=V;omega
 refine zkk (c3 (Sr λ_ X=>zf rfl (zl h rfl rfl (zf rfl (zl h rfl rfl (zf rfl (zl h rfl rfl ?_)))))));refine WL.call hasF178 rfl rfl (a9q na va la ea _ O (a6.q8 a) c8) λv w2 h'=>?_;obtain ⟨a9,s⟩:=h';have a:=a.ta s;have h:=h.k0 s;have f:=f.k0 s;have b:=b.k0 s;rcases a9 with ⟨r,d,hd,rfl,J⟩|⟨hd,rfl⟩
 ·have c6:=jZ hd;refine zm rfl (zx rfl rfl (zx rfl rfl ?_));refine zss rfl rfl ao h rfl λd6 q m=>?_;(try simp only[qt] at q);have a:=a.s1 m;have f:=f.kq m;have b:=b.kq m;have J:=J.q9 h m an;have h:=q;refine WL.bJ rfl rfl o1 b oS rfl λd5 g k=>?_;(try simp only[qt] at g);have a:=a.s1 k;have h:=h.kq k;have f:=f.kq k;have J:=J.q9 b k an;have b:=g;refine zz (X (zc λ_ a2=>Sr λ_ a1=>zl b rfl rfl (zN rfl rfl (zz (a1 ?_)))));refine CW.mQ rfl ?_;refine zkk (a2 (Sr λ_ a0=>zg h rfl (zm rfl ?_)));rw[show n=((n.toNat:Nat):Int) by omega];refine WL.ev (Ev.build (vs:=_) (cs:=[_,_,_,_,_,_]) rfl rfl) rfl ?_;refine zm rfl ?_;refine WL.call hasF179 rfl rfl (told_spec d r n.toNat SP.zero mode _ J c6 oO ⟨by decide,by decide,by decide,by decide,by decide,by decide⟩ (a6.q8 a)) λv w3 h'=>?_;obtain ⟨⟨bits,e,rfl,hT⟩,M⟩:=h';have a:=a.ta M;have f:=f.k0 M;have b:=b.k0 M;refine zx rfl rfl (zx rfl rfl ?_);refine WL.bJ rfl rfl o1 f oS rfl λd4 i D=>?_;(try simp only[qt] at i);have a:=a.s1 D;have b:=b.kq D;have f:=i;refine WL.bJ rfl rfl o1 b oS rfl λd3 g C=>?_;(try simp only[qt] at g);have a:=a.s1 C;have f:=f.kq C;have b:=g;refine zz (a0 ?_);refine zr ?_;refine cgx rfl rfl rfl f b j λw9 I=>?_;have a:=a.step I (λy Q=>by simp only[List.mem_singleton] at Q;subst Q;exact .inr oO);refine ⟨⟨_,_,rfl,.inr ⟨t,.inr ⟨d,hd,?_⟩⟩⟩,a⟩;rw[hT.err];exact hT
 refine zm rfl (zx rfl rfl (zx rfl rfl ?_));refine zss rfl rfl ao h rfl λd2 q o=>?_;(try simp only[qt] at q);have a:=a.s1 o;have f:=f.kq o;have b:=b.kq o;refine WL.bJ rfl rfl o1 b oS rfl λd1 g B=>?_;(try simp only[qt] at g);have a:=a.s1 B;have f:=f.kq B;have b:=g;refine zz (X (zc λ_ e0=>Sr λ_ Z=>zl b rfl rfl (zN rfl rfl (zz (Z ?_)))));refine CW.nJ rfl ?_;refine Sr λ_ Y=>zl b rfl rfl ?_;refine WL.bJ rfl rfl o1 f oS rfl λd0 i A=>?_;(try simp only[qt] at i);have a:=a.s1 A;have b:=b.kq A;have f:=i;refine WL.bJ rfl rfl o1 b oS rfl λc9 g z=>?_;(try simp only[qt] at g);have a:=a.s1 z;have f:=f.kq z;have b:=g;refine zz (Y ?_);refine zr ?_;refine cgx rfl rfl rfl f b j λw9 I=>?_;have a:=a.step I (λy Q=>by simp only[List.mem_singleton] at Q;subst Q;exact .inr oO);exact ⟨⟨_,_,rfl,.inr ⟨t,.inl ⟨hd,rfl,rfl⟩⟩⟩,a⟩
end
section
open Go Sx Wd
set_option exponentiation.threshold 9000
theorem cvj{n:Nat}(d:n≠0)(f:n<18446744073709551616): ∃ t:Nat,n=(cJ (n:Int)).m*2^t/\(cJ (n:Int)).e=t/\(cJ (n:Int)).neg=false:=by
  have h:=bhx (n:=(n:Int)) oO
  rw[show decide ((n:Int)<0)=false from decide_eq_false oO,Int.natAbs_natCast] at h
  obtain ⟨t,b,g,a⟩:=d9x h d
  exact ⟨t,b,by omega,a⟩
def MeanQ(S:Int)(n:Nat)(mode:Int)(bits:Nat):Prop:=
  ∃ r,mX S.natAbs (n*2^1073) (decide (S<0)) mode r/\r<=9218868437227405312/\bits=(if S<0 then r+9223372036854775808 else r)
theorem near_is{A B:Nat}{neg:Bool}{mode:Int}{r:Nat}(a:r<9218868437227405312)(b:0<B)(h:2*nz r*B=A):mX A B neg mode r:=
  ⟨r,a,Nat.le_of_eq h,.inl (by have:=cfq r;rw[<- h];exact Nat.mul_lt_mul_of_pos_right oO b),by rw[if_pos h]⟩
end
section
open Go Sx Wd
set_option exponentiation.threshold 9000
set_option maxRecDepth 4000
theorem signed_val(s:Bool)(m k:Nat):Ieee.signed s m k=if s then -((m*2^k:Nat):Int) else ((m*2^k:Nat):Int):=by
  unfold Ieee.signed
  rw[Nat.shiftLeft_eq]
theorem splitP_small{x:Nat}(b:x%9223372036854775808<4503599627370496):g6 x=if 0<x%4503599627370496 then ⟨decide (x/9223372036854775808%2=1),1,-1074,x%4503599627370496⟩ else ⟨decide (x/9223372036854775808%2=1),0,-1074,0⟩:=by
  have e:x/4503599627370496%2048=0:=by omega
  unfold g6
  rw[e,if_neg (λa=>absurd a.1 oD),if_neg oD,if_neg oD]
theorem splitP_norm{x:Nat}(f : ¬x%9223372036854775808<4503599627370496)(d:x%9223372036854775808<9218868437227405312):g6 x=⟨decide (x/9223372036854775808%2=1),2,-1074+((x/4503599627370496%2048:Nat):Int)-1,x%4503599627370496+4503599627370496⟩:=by
  have e:x/4503599627370496%2048≠2047:=by omega
  have b:0<x/4503599627370496%2048:=by omega
  unfold g6
  rw[if_neg (λa=>e a.1),if_neg e,if_pos b]
theorem ckj{x:Nat}(h:(g6 x).cls<=2): ∃ (m p:Nat),Ieee.double.read x = .number (x/9223372036854775808%2==1) m ((p:Int)-1074)/\fvN x=m*2^(p+1074)/\nz (x%9223372036854775808)=m*2^p/\(g6 x).neg=decide (x/9223372036854775808%2=1):=by
  have d:=(cpx x).1 h
  have b:Ieee.double.leastPlace = -1074:=by decide
  unfold Ieee.Format.read
  simp only[Fl.bhq,Fl.buq,Fl.buj,b]
  by_cases h1:x%9223372036854775808<4503599627370496
  · rw[if_pos h1]
    have a:=splitP_small h1
    refine ⟨x%9223372036854775808,0,rfl,?_,?_,?_⟩
    · unfold fvN
      rw[a]
      by_cases h2:0<x%4503599627370496
      · rw[if_pos h2]
        dsimp only
        rw[if_pos (.inl rfl),show x%9223372036854775808=x%4503599627370496 by omega]
        rfl
      · rw[if_neg h2]
        dsimp only
        rw[if_neg oD,show x%9223372036854775808=0 by omega,Nat.zero_mul]
    · unfold nz;rw[if_pos h1];simp
    · rw[a];split<;>rfl
  · rw[if_neg h1,if_pos d]
    have a:=splitP_norm h1 d
    refine ⟨4503599627370496+x%9223372036854775808%4503599627370496,x%9223372036854775808/4503599627370496-1,?_,?_,?_,?_⟩
    · rw[show (-1074:Int)+((x%9223372036854775808/4503599627370496-1:Nat):Int)=((x%9223372036854775808/4503599627370496-1:Nat):Int)-1074 by omega]
    · unfold fvN
      rw[a]
      dsimp only
      rw[if_pos (.inr rfl),show x%4503599627370496+4503599627370496=4503599627370496+x%9223372036854775808%4503599627370496 by omega,show (-1074+((x/4503599627370496%2048:Nat):Int)-1+2148).toNat=x%9223372036854775808/4503599627370496-1+1074 by omega]
    · unfold nz;rw[if_neg h1]
    · rw[a]
theorem fvN_nz{x:Nat}(h:(g6 x).cls<=2):fvN x=nz (x%9223372036854775808)*2^1074:=by
  obtain ⟨m,p,_,b,a,_⟩:=ckj h
  rw[b,a,Nat.pow_add,Nat.mul_assoc]
theorem fvI_nz{x:Nat}(h:(g6 x).cls<=2)(b:x<18446744073709551616):fvI x=if 9223372036854775808<=x then -((nz (x%9223372036854775808)*2^1074:Nat):Int) else ((nz (x%9223372036854775808)*2^1074:Nat):Int):=by
  obtain ⟨m,p,_,_,_,a⟩:=ckj h
  unfold fvI
  rw[a,fvN_nz h]
  by_cases q:9223372036854775808<=x
  · rw[if_pos oT,if_pos q]
  · rw[if_neg oT,if_neg q]
theorem cmp_scale{a b c:Int}(g:0<c):compare (a*c) (b*c)=compare a b:=by
  show compareOfLessAndEq (a*c) (b*c)=compareOfLessAndEq a b
  unfold compareOfLessAndEq
  have f:a*c<b*c↔a<b:=Int.mul_lt_mul_right g
  have e:a*c=b*c↔a=b:=⟨λh=>Int.eq_of_mul_eq_mul_right oO h,λh=>by rw[h]⟩
  by_cases q:a<b
  · rw[if_pos q,if_pos (f.2 q)]
  · rw[if_neg q,if_neg (λd=>q (f.1 d))]
    by_cases q2:a=b
    · rw[if_pos q2,if_pos (e.2 q2)]
    · rw[if_neg q2,if_neg (λd=>q2 (e.1 d))]
theorem order_fin{x y:Nat}(i:(g6 x).cls<=2)(h:(g6 y).cls<=2):FloatKind.f64.format.order x y=some (compare (fvI x) (fvI y)):=by
  obtain ⟨m,p,r,o,_,l⟩:=ckj i
  obtain ⟨n,q,g,f,_,d⟩:=ckj h
  show (Ieee.double.read x).order (Ieee.double.read y)=_
  rw[r,g]
  unfold Ieee.Datum.order
  dsimp only
  obtain ⟨b,w⟩ : ∃ b:Nat,b=min p q:=⟨_,rfl⟩
  have v:((p:Int)-1074-min ((p:Int)-1074) ((q:Int)-1074)).toNat=p-b:=by omega
  have u:((q:Int)-1074-min ((p:Int)-1074) ((q:Int)-1074)).toNat=q-b:=by omega
  rw[v,u]
  have j:(0:Int)<((2^(b+1074):Nat):Int):=by have:=Nat.two_pow_pos (b+1074);omega
  rw[<- cmp_scale (a:=Ieee.signed _ m _) (b:=Ieee.signed _ n _) j]
  have key : ∀ (s:Bool) (m p:Nat),b<=p->Ieee.signed s m (p-b)*((2^(b+1074):Nat):Int)=if s=true then -((m*2^(p+1074):Nat):Int) else ((m*2^(p+1074):Nat):Int):=by
    intro s m p k
    have e:m*2^(p+1074)=m*2^(p-b)*2^(b+1074):=by
      rw[Nat.mul_assoc,<- Nat.pow_add];congr 2;omega
    rw[signed_val,e]
    cases s
    · simp only[Bool.false_eq_true,if_false];rw[<- Int.natCast_mul]
    · simp only[if_true];rw[Int.neg_mul,<- Int.natCast_mul]
  rw[key _ _ _ oO,key _ _ _ oO]
  unfold fvI
  rw[o,f,l,d]
  have t : ∀ z:Nat,((z/9223372036854775808%2==1)=true)↔(decide (z/9223372036854775808%2=1)=true):=λz=>by simp
  simp only[t]
theorem icmp(a b:Int):compare a b=if a<b then .lt else if a=b then .eq else .gt:=rfl
theorem icmp_gt(a b:Int):compare a b = .gt↔b<a:=by
  rw[icmp]
  by_cases q:a<b
  · rw[if_pos q];constructor
    · intro h;cases h
    · intro h;omega
  · rw[if_neg q]
    by_cases q2:a=b
    · rw[if_pos q2];constructor
      · intro h;cases h
      · intro h;omega
    · rw[if_neg q2];constructor
      · intro h;omega
      · intro h;rfl
theorem fcmp_gt(a b:Int):(some (compare a b)==some Ordering.gt)=decide (b<a):=by
  rw[Bool.eq_iff_iff];simp[icmp_gt]
section
variable {P:Program} {s:Sl} {w:World} {ty:TypeId} {x y:Operand} {t t':TypeId} {a b:Nat}
end
end
section
open Go Sx Wd
set_option exponentiation.threshold 9000
theorem fin_mod{x:Nat}(h:(g6 x).cls<=2):x%9223372036854775808<9218868437227405312:=(cpx x).1 h
theorem fin_of{r:Nat}(h:r<9218868437227405312):(g6 r).cls<=2/\(g6 (r+9223372036854775808)).cls<=2:=⟨(cpx r).2 oO,(cpx _).2 oO⟩
theorem fv_pos{r:Nat}(h:r<9218868437227405312):fvI r=(nz r*2^1074:Nat):=by
  rw[fvI_nz (fin_of h).1 oO,if_neg oO,Nat.mod_eq_of_lt oO]
theorem nz_zero{k:Nat}: nz k=0↔k=0:=by
  constructor
  · intro h
    apply Classical.byContradiction
    intro a
    have:=c8x (show 0<k by omega)
    omega
  · intro h;rw[h];decide
end
end Go.Proofs.YtomlallhlakhfaaGreatDoor