/- Part 8 of what the proof rests on. No condition. -/
import Derived.Test.YtomlallhlakhfaaGreatDoorZp7
import Derived.WalkKit
import Derived.LaidEql
import Derived.Stop.Asserts
import Derived.RowKitTokens
import Derived.ProofKit
import Derived.OpenShut
import Derived.ChangeOld
import Derived.Below
import Derived.Deep.Slices
import Derived.Laws.Cover2
import Derived.LaidMore
import Derived.SizedLaws
import Derived.SevenTiedAt
import Derived.Stop.Joined
import Derived.Test.YtomlallhlakhfaaGreatDoorRows
set_option linter.unusedVariables false
set_option linter.unusedSimpArgs false
set_option maxRecDepth 100000
set_option maxHeartbeats 4000000
namespace Go.Proofs.YtomlallhlakhfaaGreatDoor
section
open Go Sx Wd Fl
theorem NU.rw_{w:World}{a:Option Addr}{m c:Nat}{l:List Nat}(h:NU w (.slice a m c) l):RW w a (l.map kZ):=by
  obtain ⟨⟨f,d,e,_,b⟩,_⟩:=h
  cases e
  exact b
structure KSa(x y:List Nat)(nx ny:Bool)(rx ry:Value)(ex ey:Int)(b2 b3:Nat)(w0:World)(i:Nat)(w:World):Prop where
  hi:i<=x.length
  e:x.take i=y.take i
  h2:BK w b2 89 [.bool nx,rx,.int .i64 ex]
  h3:BK w b3 89 [.bool ny,ry,.int .i64 ey]
  n2:NU w rx x
  n3:NU w ry y
  ch:Chg [] w0 w
theorem rdW_bad2{a:List Nat}{p:Nat}{bad:Bool}{i n:Nat}(h:(rdW a p bad i).2.2=true)(b:i<=n):(rdW a p bad n).2.2=true:=by
  induction n with
  | zero => have : i = 0 := by omega
            subst this;exact h
  | succ n ih=>
    by_cases e:i=n+1
    · subst e;exact h
    · rw[rdW,ih oO,c7q]
theorem rdD_is{a:List Nat}{p j V n U d b i:Nat}{bad d1 d2 o g:Bool}(hB:B8 a)(h1:rdN a p bad 1=(j,V,d1))(h2:rdN a V d1 2=(n,U,d2))(h3:rdN a U d2 2=(d,b,o))(a7:n<65536)
    (A:g=true↔((1<j\/160<d)\/o=true)) (hi:i<=d) (R : ¬(i<d/\(rdW a b g i).2.2=false)) :
    (((rdW a b g i).2.2=false/\∃ d',cX (decide ((j:Int)=1)) (val (rdW a b g i).1) ((n:Int)-4096)=some d'/\decide ((j:Int)=1)=d'.neg/\(n:Int)-4096=d'.e/\(rdW a b g i).1=wd d'.m)->rdD a p bad=(decide ((j:Int)=1),(rdW a b g i).1,(n:Int)-4096,(rdW a b g i).2.1,false))/\
    (¬((rdW a b g i).2.2=false/\∃ d',cX (decide ((j:Int)=1)) (val (rdW a b g i).1) ((n:Int)-4096)=some d'/\decide ((j:Int)=1)=d'.neg/\(n:Int)-4096=d'.e/\(rdW a b g i).1=wd d'.m)->(rdD a p bad).2.2.2.2=true):=by
  have H:rdD a p bad=if 1<j\/160<d then (false,[],0,b,true) else (decide ((j:Int)=1),(rdW a b o d).1,(n:Int)-4096,(rdW a b o d).2.1,if d=0 then decide ((rdW a b o d).2.2=true\/(j:Int)=1\/(n:Int)-4096≠0) else decide ((rdW a b o d).2.2=true\/(rdW a b o d).1.getD 0 0%2=0\/(rdW a b o d).1.getD (d-1) 0=0)):=by
    unfold rdD;rw[h1];dsimp only;rw[h2];dsimp only;rw[h3]
  by_cases t:(rdW a b g i).2.2=true
  · refine ⟨λh=>absurd (h.1.symm.trans t) oD,λ_=>?_⟩
    rw[H]
    split
    · rfl
    · rename_i M
      have B:(rdW a b o d).2.2=true:=by
        by_cases hd:o=true
        · rw[hd];exact rdW_bad ..
        · have:g=o:=by
            have:g=false:=Bool.eq_false_iff.2 λz=>(A.1 z).elim M hd
            rw[this,Bool.eq_false_iff.2 hd]
          rw[<- this];exact rdW_bad2 t hi
      dsimp only
      split<;>simp[B]
  · have t:(rdW a b g i).2.2=false:=Bool.eq_false_iff.2 t
    have s:g=false:=Bool.eq_false_iff.2 λz=>by rw[z,rdW_bad] at t;cases t
    have M : ¬(1<j\/160<d):=λz=>by rw[A.2 (.inl z)] at s;cases s
    have B:o=false:=Bool.eq_false_iff.2 λz=>by rw[A.2 (.inr z)] at s;cases s
    have Q:i=d:=by
      by_cases q:i<d
      · exact absurd ⟨q,t⟩ R
      · omega
    subst Q
    rw[s] at t ⊢
    rw[B,if_neg M] at H
    have y:=a1q a b false i
    have Z:=rdW_W hB b false i
    generalize rdW a b false i=RR at *
    obtain ⟨k,q,bd⟩:=RR
    dsimp only at t H y Z ⊢
    subst t
    rw[H]
    have a9 : -4096<=(n:Int)-4096/\(n:Int)-4096<=61439:=by omega
    generalize hng:decide ((j:Int)=1)=ng
    generalize (n:Int)-4096=e at *
    have v:(j:Int)=1↔ng=true:=by rw[<- hng];simp
    by_cases h0:i=0
    · have I:k=[]:=List.length_eq_zero_iff.1 oO
      subst I
      rw[if_pos h0]
      constructor
      · rintro ⟨_,d',G,e1,e2,C⟩
        have hz:d'=Dy.zero:=by
          have:cX ng (val []) e=some Dy.zero:=kX _ _
          rw[this] at G;exact (Option.some.inj G).symm
        subst hz
        have u:ng=false:=e1
        have : ¬((j:Int)=1):=λz=>by rw[v.1 z] at u;cases u
        have T:e=0:=e2
        simp[this,T]
      · intro O
        refine decide_eq_true ?_
        apply Classical.byContradiction
        intro F
        apply O
        refine ⟨rfl,Dy.zero,kX _ _,?_,?_,?_⟩
        · have : ¬ng=true:=λz=>F (.inr (.inl (v.2 z)))
          exact Bool.eq_false_iff.2 this
        · exact Classical.byContradiction λz=>F (.inr (.inr z))
        · exact fX.symm
    · rw[if_neg h0]
      constructor
      · rintro ⟨_,d',G,e1,e2,C⟩
        have w:=jZ G
        have Y:d'.m≠0:=λz=>by rw[z,fX] at C;rw[C] at y;simp at y;omega
        have X:=w.odd Y
        have f:=cix Y
        have hv:val k=d'.m:=by rw[C,g7]
        have a5:k.getD 0 0%2=1:=by
          cases k with
          | nil=>simp at y;omega
          | cons x l=>rw[<- hv,val_mod] at X;simpa using X
        have J:k.getD (i-1) 0≠0:=by rw[C];rw[<- y,C];exact f
        have : ¬(false=true\/k.getD 0 0%2=0\/k.getD (i-1) 0=0):=by
          rintro (z|z|z)
          · cases z
          · omega
          · exact J z
        rw[decide_eq_false this]
      · intro O
        refine decide_eq_true ?_
        apply Classical.byContradiction
        intro F
        apply O
        have f:k.getD (k.length-1) 0≠0:=by rw[y];exact λz=>F (.inr (.inr z))
        have D:=brx Z (.inr f)
        have r:val k%2=1:=by
          cases k with
          | nil=>simp at y;omega
          | cons x l=>rw[val_mod];have : ¬x%2=0:=λz=>F (.inr (.inl (by simpa using z)));omega
        have w:(Dy.mk ng (val k) e).ok:=by
          refine ⟨λz=>?_,λ_=>r,?_,?_⟩
          · simp only at z;rw[z] at r;cases r
          · simp only[D];omega
          · simp only;omega
        exact ⟨rfl,⟨ng,val k,e⟩,nQ w,rfl,rfl,D.symm⟩
structure KDr(lo br b2 n3 p3:Nat)(dq:Bool)(bs:List Nat)(w0:World)(g:Nat×Value)(w:World):Prop where
  hi:g.1<=n3
  t:RdM lo w br bs (rdW bs p3 dq g.1).2.1 (rdW bs p3 dq g.1).2.2
  h2:BK w b2 89 [.bool false,.slice none 0 0,.int .i64 0]
  g:GR w 162 kZ w0.heap.size [b2] g.2 (rdW bs p3 dq g.1).1
  ch:Chg [br] w0 w
theorem r3Same_spec(f e:Bool)(rx ry:Value)(x y:List Nat)(ex ey:Int)(w:World)(h:NU w rx x)(g:NU w ry y):Ret Tryz.prog 155 [.agg [.bool f,rx,.int .i64 ex].toArray,.agg [.bool e,ry,.int .i64 ey].toArray] w λu w'=>u = .bool (decide (f=e/\ex=ey/\x=y))/\Chg [] w w':=by
 obtain ⟨⟨Q,O,rfl,a6,b7⟩,d2,d0⟩:=id h;obtain ⟨⟨ay,cy,rfl,a5,b6⟩,d1,c9⟩:=id g;have b:=crf w;refine zE2 Tryz.func155 rfl ?_;refine Sr λ_ X=>?_;refine zBh rfl rfl rfl b λb2 c6 a l b8 I b=>?_;have h:=h.q8 l;have g:=g.q8 l;refine zBh rfl rfl rfl b λb3 c5 d k J H b=>?_;have h:=h.q8 k;have g:=g.q8 k;have M:=zdd a.lt J;have a:=a.k0 k;refine za rfl (zz (X (zc λ_ V=>?_)));refine CW.oX 26 (decide (f≠e\/ex≠ey\/x.length≠y.length)) ?_ ?_
 ·refine zS λ_ m=>zf rfl (zl a rfl rfl (zf rfl (zl d rfl rfl ?_)));refine WL.ev (Ev.dnj rfl rfl) rfl ?_;refine zm rfl ?_;refine zb ?_ ?_<;>intro a3<;>try simp only[qs] at a3
  ·refine zv rfl (zv rfl (zv rfl (zv rfl (zv rfl (zt rfl rfl (zm rfl (zv rfl (zv rfl (zv rfl (zv rfl (zv rfl (zv rfl (zv rfl (zt rfl rfl (zz (m ?_))))))))))))))));refine ⟨rfl,rfl,j0.g8 rfl ?_ ?_⟩
   ·first|(cases f<;>cases e<;>simp_all;done)|(cases f<;>cases e<;>first|(simp_all;done)|(simp;omega)|(simp_all;omega))
   exact SMg
  refine zw rfl (zf rfl (zw rfl (zl a rfl rfl (zw rfl (zf rfl (zw rfl (zl d rfl rfl (zw rfl (zN rfl rfl (ze rfl rfl (zm rfl ?_)))))))))));refine zb ?_ ?_<;>intro a2<;>try simp only[qs] at a2
  ·refine zv rfl (zv rfl (zv rfl (zv rfl (zv rfl (zv rfl (zv rfl (zt rfl rfl (zz (m ?_)))))))));refine ⟨rfl,rfl,j0.g8 rfl ?_ ?_⟩
   ·first|(cases f<;>cases e<;>simp_all;done)|(cases f<;>cases e<;>first|(simp_all;done)|(simp;omega)|(simp_all;omega))
   exact SMg
  refine zw rfl (zf rfl (zw rfl ?_));refine WL.ev (Ev.load (v:=.slice Q x.length O) rfl rfl (a.at_ rfl)) rfl ?_;refine zw rfl (zn rfl (zw rfl (zf rfl (zw rfl ?_))));refine WL.ev (Ev.load (v:=.slice ay y.length cy) rfl rfl (d.at_ rfl)) rfl ?_;refine zw rfl (zn rfl (zw rfl (zN rfl rfl (ze rfl rfl (zz (m ?_))))));refine ⟨rfl,rfl,j0.g8 rfl ?_ ?_⟩
  ·first|(cases f<;>cases e<;>simp_all;done)|(cases f<;>cases e<;>first|(simp_all;done)|(simp;omega)|(simp_all;omega))
  exact SMg
 refine zy rfl ?_ ?_<;>intro p<;>try simp only[qs] at p
 ·have G:f≠e\/ex≠ey\/x.length≠y.length:=p
  refine Sr λ_ U=>za rfl (zz (U ?_));refine zr (zr1 rfl rfl ?_);refine ⟨congrArg Value.bool (decide_eq_false ?_).symm,b⟩;rintro ⟨z1,z2,z3⟩;rcases G with q|q|q
  · exact q z1
  · exact q z2
  exact q (by rw[z3])
 have G : ¬(f≠e\/ex≠ey\/x.length≠y.length):=p;have a0:f=e:=Classical.byContradiction λz=>G (.inl z);have Z:ex=ey:=Classical.byContradiction λz=>G (.inr (.inl z));have Y:x.length=y.length:=Classical.byContradiction λz=>G (.inr (.inr z));refine zkk (V (zc λ_ T=>Sr λ_ R=>za rfl (zz (R (CW.block ?_)))));refine CW.loop (S:=λi:Nat=>[(2,.pointer (some ⟨b2,0,none⟩)),(3,.pointer (some ⟨b3,0,none⟩)),(5,.int .i64 (i:Int))]) (Inv:=KSa x y f e (.slice Q x.length O) (.slice ay y.length cy) ex ey b2 b3 w) (mu:=λi=>x.length-i) (0) ?_ ?_ ?_
 ·exact ⟨Nat.zero_le _,rfl,a,d,h,g,b⟩
 ·exact SLp
 rintro i wr ⟨hi,he,a,d,h,g,b⟩;obtain ⟨⟨_,_,e9,_,c8⟩,-,-⟩:=id h;cases e9;obtain ⟨⟨_,_,e9,_,c7⟩,-,-⟩:=id g;cases e9;refine zc λ_ F=>Sr λ_ D=>zm rfl (zf rfl ?_);refine WL.ev (Ev.load (v:=.slice Q x.length O) rfl rfl (a.at_ rfl)) rfl ?_;refine zn rfl (zL rfl rfl (zz (D ?_)));refine zy rfl ?_ ?_<;>intro a7<;>try simp only[qs] at a7
 ·refine zkk (F (zc λ_ C=>CW.block (zc λ_ B=>?_)));refine CW.jQ dZ oR λb5 s j=>?_
  have b:=b.ta j;have a:=a.k0 j;have d:=d.k0 j;have h:=h.q8 j;have g:=g.q8 j;refine yf rfl ?_;refine WS.ev (Ev.load (v:=.slice Q x.length O) rfl rfl (a.at_ rfl)) rfl ?_;refine ym rfl ?_;refine WS.ev (Ev.ixR (i) rfl rfl h.rw_ oO oO oT) rfl ?_;refine WS.ev (Ev.load rfl rfl (h.rw_.u32 oO)) rfl ?_;refine yf rfl ?_;refine WS.ev (Ev.load (v:=.slice ay y.length cy) rfl rfl (d.at_ rfl)) rfl ?_;refine ym rfl ?_;refine WS.ev (Ev.ixR (i) rfl rfl g.rw_ oO oO oT) rfl ?_;refine WS.ev (Ev.load rfl rfl (g.rw_.u32 oO)) rfl ?_;refine WS.ev (Ev.neq rfl rfl) rfl ?_;refine WS.nil (s _ _ ?_);refine B ?_;refine zy rfl ?_ ?_<;>intro o<;>try simp only[qs] at o
  ·have n:x.getD i 0≠y.getD i 0:=by have:=o;omega
   refine Sr λ_ A=>za rfl (zz (A ?_));refine zr (zr1 rfl rfl ?_);refine ⟨congrArg Value.bool (decide_eq_false ?_).symm,b⟩;rintro ⟨_,_,z⟩;exact n (by rw[z])
  have n:x.getD i 0=y.getD i 0:=by have:=o;omega
  refine zkk (C (zS λ_ r=>zm rfl ?_));(first|refine zi rfl rfl ?_|refine zo rfl rfl ?_);refine za rfl (zz (r ?_));refine ⟨rfl,i+1,?_,?_,?_⟩
  ·exact SLp
  ·exact ⟨by omega,by rw[asq oO,asq oO,he,n],a,d,h,g,b⟩
  show x.length-(i+1)<x.length-i;omega
 have a1:i=x.length:=by omega
 subst a1;refine CW.exit ?_;refine T (Sr λ_ t=>za rfl (zz (t ?_)));refine zr (zr1 rfl rfl ?_);refine ⟨congrArg Value.bool (decide_eq_true ⟨a0,Z,?_⟩).symm,b⟩;rw[List.take_length,Y,List.take_length] at he;exact he
theorem dix(lo R p:Nat)(o:List Nat)(bad:Bool)(w:World)(j:RdM lo w R o p bad)(hL:o.length<=140737488355328)(hB:B8 o)(k5:lo<=w.heap.size):Ret Tryz.prog 88 [.pointer (some ⟨R,0,none⟩)] w λu w'=>∃ (sl:Value) (ng:Bool) (ws:List Nat) (e:Int) (q:Nat) (bd:Bool),u = .agg [.bool ng,sl,.int .i64 e].toArray/\NU w' sl ws/\ws.length<=65535/\RdM lo w' R o q bd/\bd=(rdD o p bad).2.2.2.2/\(bd=false->rdD o p bad=(ng,ws,e,q,false))/\Chg [R] w w':=by
  have m7:R<lo:=j.lt;have d:Chg [R] w w:=Chg.refl _ _;refine zE1 Tryz.func88 rfl ?_;refine Sr λ_ i5=>?_;refine zAh rfl rfl d λb2 o2 b h2 m5 g9 d=>?_;have j:=j.q8 h2;refine zz (i5 (Sr λ_ i4=>zm rfl ?_));refine WL.call hasF91 rfl rfl (bcj lo R _ o _ 1 _ j hL hB oD) λv w1 h'=>?_;obtain ⟨rfl,j,C⟩:=h';have k4:=aix hB p bad 1;generalize hR1:rdN o p bad 1=R1 at *;obtain ⟨n1,p1,d1⟩:=R1;dsimp only at j k4;dsimp only;have d:=d.step C (λy G=>.inl G);have b:=b.kq C;refine za rfl (zz (i4 (Sr λ_ i3=>zm rfl ?_)));refine WL.call hasF91 rfl rfl (bcj lo R _ o _ 2 _ j hL hB oD) λv w2 h'=>?_;obtain ⟨rfl,j,C⟩:=h';have k3:=aix hB p1 d1 2;generalize hR2:rdN o p1 d1 2=R2 at *;obtain ⟨n2,p2,d2⟩:=R2;dsimp only at j k3;dsimp only;have d:=d.step C (λy G=>.inl G);have b:=b.kq C;refine WL.ev (Ev.eZ rfl rfl (tX oO)) rfl ?_;refine WL.ev (Ev.dX rfl rfl oO) rfl ?_;refine za rfl (zz (i3 (Sr λ_ i2=>zm rfl ?_)));refine WL.call hasF91 rfl rfl (bcj lo R _ o _ 2 _ j hL hB oD) λv w3 h'=>?_;obtain ⟨rfl,j,C⟩:=h';have k2:=aix hB p2 d2 2;generalize hR3:rdN o p2 d2 2=R3 at *;obtain ⟨V,B,d3⟩:=R3;dsimp only at j k2;dsimp only;have d:=d.step C (λy G=>.inl G);have b:=b.kq C;refine WL.ev (Ev.eZ rfl rfl (tX oO)) rfl ?_;refine za rfl (zz (i2 ?_));refine CW.anj (λD s' w'=>D=[]/\(∃ x:Bool,(x=true↔((1<n1\/160<V)\/d3=true))/\RdM lo w' R o B x)/\BK w' b2 89 [.bool false,.slice none 0 0,.int .i64 0]/\Chg [R] w w'/\j0 [(0,.pointer (some ⟨R,0,none⟩)),(2,.pointer (some ⟨b2,0,none⟩)),(3,.int .u64 (n1:Int)),(4,.int .i64 ((n2:Int)-4096)),(5,.int .i64 (V:Int))] s') ?_ ?_
  · refine CW.oX 25 (decide (1<n1\/160<V)) ?_ ?_
    · refine zS λ_ c2=>zm rfl (zG rfl rfl (zm rfl ?_));refine zb ?_ ?_<;>intro l2<;>try simp only[qs] at l2
      · refine zv rfl (zv rfl (zt rfl rfl (zz (c2 ?_))));refine ⟨rfl,rfl,j0.g8 rfl ?_ ?_⟩
        · first|(exact decide_eq_decide.2 oO)|(simp_all;done)|(simp;omega)|(simp_all;omega)|skip
        exact SMg
      refine zw rfl (zm rfl (zw rfl (zG rfl rfl (ze rfl rfl (zz (c2 ?_))))));refine ⟨rfl,rfl,j0.g8 rfl ?_ ?_⟩
      · first|(exact decide_eq_decide.2 oO)|(simp_all;done)|(simp;omega)|(simp_all;omega)|skip
      exact SMg
    refine zy rfl ?_ ?_<;>intro d5<;>try simp only[qs] at d5
    · have hq:1<n1\/160<V:=d5
      refine zS λ_ e6=>zm rfl (zP rfl (zf rfl ?_));obtain ⟨a,c,hb,hr,hp,c8,d6,d7⟩:=id j;refine WL.bJ rfl rfl rfl hb oS rfl λc7 O k=>?_;simp only[List.set_cons_succ,List.set_cons_zero] at O;have j:=j.set hb O k;have b:=b.kq k;have d:=d.step k (λy G=>.inl G);refine zz (e6 ?_);exact ⟨rfl,⟨true,⟨λ_=>.inl hq,λ_=>rfl⟩,j⟩,b,d,by (repeat (first|exact j0.nil|refine j0.cons rfl ?_))⟩
    have hq : ¬(1<n1\/160<V):=d5;refine zkk ?_;exact ⟨rfl,⟨d3,⟨λz=>.inr z,λz=>z.elim (λq=>absurd q hq) id⟩,j⟩,b,d,by (repeat (first|exact j0.nil|refine j0.cons rfl ?_))⟩
  rintro _ s' wJ ⟨rfl,⟨x,l4,j⟩,b,d,g1⟩;refine CW.sub g1 ?_;refine Sr λ_ f9=>za rfl (zz (f9 (zc λ_ f8=>Sr λ_ f7=>za rfl (zz (f7 (CW.block ?_))))));refine CW.loop (S:=λg:Nat×Value=>[(0,.pointer (some ⟨R,0,none⟩)),(2,.pointer (some ⟨b2,0,none⟩)),(3,.int .u64 (n1:Int)),(4,.int .i64 ((n2:Int)-4096)),(5,.int .i64 (V:Int)),(6,g.2),(7,.int .i64 (g.1:Int))]) (Inv:=KDr lo R b2 V B x o w) (mu:=λg=>V-g.1) ((0,.slice none 0 0)) ?_ ?_ ?_
  · exact ⟨Nat.zero_le _,j,b,GR.nil,d⟩
  · exact SLp
  rintro ⟨i,vm⟩ wr ⟨hi,j,b,A,d⟩;dsimp only at hi j A;dsimp only;refine zc λ_ f6=>?_;refine CW.oX 38 (decide (i<V/\(rdW o B x i).2.2=false)) ?_ ?_
  · obtain ⟨a,c,hb,hr,hp,c8,d6,d7⟩:=id j;refine zS λ_ c1=>zm rfl (zm rfl (zL rfl rfl (zm rfl ?_)));refine zb ?_ ?_<;>intro l1<;>try simp only[qs] at l1
    · refine zw rfl (zm rfl (zw rfl (zP rfl (zw rfl (zf rfl (zw rfl ?_))))));refine WL.ev (Ev.load (v:=.bool (rdW o B x i).2.2) rfl rfl (hb.at_ rfl)) rfl ?_
      refine zw rfl (zT rfl (zt rfl rfl (zz (c1 ?_))));refine ⟨rfl,rfl,j0.g8 rfl ?_ ?_⟩
      · first|(simp_all;done)|(simp;omega)|(cases hbI:(rdW o B x i).2.2<;>simp_all<;>omega)|(cases hbI:(rdW o B x i).2.2<;>simp_all;done)
      exact SMg
    refine zv rfl (zv rfl (zv rfl (zv rfl (zv rfl (ze rfl rfl (zz (c1 ?_)))))));refine ⟨rfl,rfl,j0.g8 rfl ?_ ?_⟩
    · first|(simp_all;done)|(simp;omega)|(cases hbI:(rdW o B x i).2.2<;>simp_all<;>omega)|(cases hbI:(rdW o B x i).2.2<;>simp_all;done)
    exact SMg
  refine zy rfl ?_ ?_<;>intro d0<;>try simp only[qs] at d0
  · have l0:i<V/\(rdW o B x i).2.2=false:=by have h9:=d0;exact h9
    have o6:=l0.1;refine zkk (f6 (zc λ_ f5=>CW.block ?_));have g4:=A;refine zR λ_ e5=>?_;refine zm rfl (zm rfl ?_);refine WL.call hasF91 rfl rfl (bcj lo R _ o _ 4 _ j hL hB oD) λv w4 h'=>?_;obtain ⟨rfl,j,C⟩:=h';have b:=b.kq C;have d:=d.step C (λy G=>.inl G);have A:=A.dJ C (λy G=>.inr (.inl (by rw[List.mem_singleton.1 G];omega)));have k1:=aix hB (rdW o B x i).2.1 (rdW o B x i).2.2 4;have d8:rdW o B x (i+1)=((rdW o B x i).1++[(rdN o (rdW o B x i).2.1 (rdW o B x i).2.2 4).1],(rdN o (rdW o B x i).2.1 (rdW o B x i).2.2 4).2):=by rw[rdW]
    generalize hR4:rdN o (rdW o B x i).2.1 (rdW o B x i).2.2 4=R4 at *;obtain ⟨n4,p4,d4⟩:=R4;dsimp only at j k1 d8;dsimp only;refine WL.ev (Ev.eZ rfl rfl (in_u32 oO)) rfl ?_;refine WL.buildSlice (m:=1) (cs:=[kZ (n4)]) oD oD rfl oR rfl λl8 h8 a1=>?_;have I:=a1.chg;have a3:=a1.ge;have h3:OB h8 l8 _ [n4]:=a1.at_;have e1:=Nat.le_trans d.size a3;have d:=d.ta I;have j:=j.q8 I;have g3:=zdd b.lt a3;have b:=b.k0 I;have A:=A.q8 I;refine WL.c1j (f:=kZ) (lo:=w.heap.size) (X:=[b2]) (l:=(rdW o B x i).1) (news:=[n4]) (by rfl) (λi=>rfl) rfl rfl A (by first|rfl|(simp;done)|(simp;omega)|omega) h3.row (by first|omega|exact d.size|exact hcr.size|exact Nat.le_refl _) (by intro y G;simp only[List.mem_singleton] at G;subst G;exact b.lt) (by first|omega|(simp only[List.length_append,List.length_cons,List.length_nil,a1q];omega)) (by first|omega|(simp only[List.length_append,List.length_cons,List.length_nil,a1q];omega)) rfl λi0 o3 h1 Q=>?_;have d:=GR.frame A Q d (by first|omega|exact Nat.le_refl _);have b:=b.dJ Q (A.notin (by first|exact .inr oO|exact .inl oS));have A:=h1;have j:=j.dJ Q (λy G=>Nat.le_trans k5 (g4.ge y G));refine za rfl ?_;refine WL.nil (e5 _ _ _ (f5 ?_));refine zS λ_ e4=>zm rfl ?_;(first|refine zi rfl rfl ?_|refine zo rfl rfl ?_);refine za rfl (zz (e4 ?_));refine ⟨rfl,(i+1,i0),?_,?_,?_⟩
    · exact SLp
    · refine ⟨by dsimp only;omega,?_,b,?_,d⟩
      · rw[d8];exact j
      rw[d8];exact A
    show V-(i+1)<V-i;omega
  have l3 : ¬(i<V/\(rdW o B x i).2.2=false):=by have h9:=d0;exact h9
  have Y:=rdD_is hB hR1 hR2 hR3 oO l4 hi l3;have b4:(rdW o B x i).1.length<=65535:=by rw[a1q];omega
  have c5:(rdW o B x i).1.length<=34359738368:=by omega
  have h:=A.nu (rdW_W hB _ _ _) oO;have o4:=h.one;obtain ⟨⟨l9,l7,rfl,m6,m3⟩,-,-⟩:=id h;generalize hRW:rdW o B x i=RR at *;obtain ⟨ws,q,bd⟩:=RR;dsimp only at j h Y b4 c5;refine CW.exit ?_;refine f8 (Sr λ_ f4=>zm rfl (zq rfl rfl (zm rfl (zm rfl ?_))));refine WL.ev (Ev.build (vs:=_) (cs:=[.bool (decide ((n1:Int)=1)),.slice l9 ws.length l7,.int .i64 ((n2:Int)-4096)]) rfl oR) rfl ?_;refine zAh rfl rfl d λb8 o0 n a7 h0 g5 d=>?_;have j:=j.q8 a7;have h:=h.q8 a7;have h5:=zdd b.lt h0;have b:=b.k0 a7;refine zss rfl rfl ao n rfl λn9 c6 T=>?_;(try simp only[qt] at c6);have d:=d.s1 T;have b:=b.kq T;have j:=j.q9 n T an;have h:=h.q9 n T an;have n:=c6;refine zz (f4 (Sr λ_ c4=>zg n rfl ?_));refine WL.call hasF154 rfl rfl (rQ (decide ((n1:Int)=1)) _ ws ((n2:Int)-4096) _ h oO c5) λv w5 h'=>?_;obtain ⟨l5,C⟩:=h';have d:=d.ta C;have b:=b.k0 C;have n:=n.k0 C;have j:=j.q8 C;have h:=h.q8 C;rcases l5 with ⟨r,d',a4,rfl,Z⟩|⟨a4,rfl⟩
  · have o5:=Z.one;refine zm rfl (zx rfl rfl (zx rfl rfl ?_));refine zAh rfl rfl d λb9 h7 F s J a2 d=>?_;have j:=j.q8 s;have h:=h.q8 s;have Z:=Z.q8 s;have b6:=zdd b.lt J;have b:=b.k0 s;have b5:=zdd n.lt J;have n:=n.k0 s;refine zss rfl rfl ao F rfl λn8 U H=>?_;(try simp only[qt] at U);have d:=d.s1 H;have b:=b.kq H;have n:=n.kq H;have j:=j.q9 F H an;have h:=h.q9 F H an;have Z:=Z.q9 F H an;have F:=U;refine za rfl (zz (c4 (zc λ_ c3=>Sr λ_ f3=>zm rfl (zT rfl (zm rfl (zw rfl (zg n rfl (zw rfl (zg F rfl (zw rfl ?_))))))))));refine WL.call hasF155 rfl rfl (r3Same_spec _ _ _ _ ws (wd d'.m) _ _ _ h Z) λv w6 h'=>?_;obtain ⟨rfl,C⟩:=h';have d:=d.ta C;have b:=b.k0 C;have n:=n.k0 C;have j:=j.q8 C;have h:=h.q8 C;refine zw rfl (zT rfl (ze rfl rfl (zz (f3 ?_))));refine zy rfl ?_ ?_<;>intro c9<;>try simp only[qs] at c9
    · have i9 : ¬((decide ((n1:Int)=1))=d'.neg/\((n2:Int)-4096)=d'.e/\ws=wd d'.m):=by have h9:=c9;simpa using h9
      have a8:(rdD o p bad).2.2.2.2=true:=Y.2 (λz=>by obtain ⟨_,l6,a9,e9⟩:=z;rw[a4] at a9;cases a9;exact i9 e9);refine zR λ_ e3=>?_;refine zm rfl (zP rfl (zf rfl ?_));obtain ⟨a,c,hb,hr,hp,c8,d6,d7⟩:=id j;refine WL.bJ rfl rfl rfl hb oS rfl λc7 O k=>?_;simp only[List.set_cons_succ,List.set_cons_zero] at O;have j:=j.set hb O k;have b:=b.kq k;have n:=n.kq k;have h:=h.q9 hb k (by intro v hv;simp only[List.mem_cons,List.not_mem_nil,or_false] at hv;rcases hv with rfl|rfl|rfl<;>rfl);have d:=d.step k (λy G=>.inl G);refine WL.nil (e3 _ _ _ (c3 ?_));refine Sr λ_ f2=>zg n rfl ?_;refine zss rfl rfl ao b rfl λn7 t a6=>?_;(try simp only[qt] at t);have d:=d.s1 a6;have j:=j.q9 b a6 an;have h:=h.q9 b a6 an;have b:=t;refine zz (f2 ?_);refine zr (k9.qJ rfl (aZ.cell rfl (b.fJ rfl rfl)) ?_);refine ⟨_,_,_,_,_,_,rfl,h,b4,j,?_,?_,d⟩
      · exact a8.symm
      intro z;cases z
    have g2:(decide ((n1:Int)=1))=d'.neg/\((n2:Int)-4096)=d'.e/\ws=wd d'.m:=by have h9:=c9;simpa using h9
    refine zkk (c3 (Sr λ_ f1=>zg n rfl ?_));refine zss rfl rfl ao b rfl λn6 t a5=>?_;(try simp only[qt] at t);have d:=d.s1 a5;have j:=j.q9 b a5 an;have h:=h.q9 b a5 an;have b:=t;refine zz (f1 ?_);refine zr (k9.qJ rfl (aZ.cell rfl (b.fJ rfl rfl)) ?_);refine ⟨_,_,_,_,_,_,rfl,h,b4,j,?_,?_,d⟩
    · cases hbd:bd with
      | true=>exact (Y.2 (λz=>by rw[hbd] at z;cases z.1)).symm
      | false=>rw[Y.1 ⟨hbd,d',a4,g2⟩]
    intro z;exact Y.1 ⟨z,d',a4,g2⟩
  refine zm rfl (zx rfl rfl (zx rfl rfl ?_));refine zAh rfl rfl d λb9 h7 F s J a2 d=>?_;have j:=j.q8 s;have h:=h.q8 s;have b6:=zdd b.lt J;have b:=b.k0 s;have b5:=zdd n.lt J;have n:=n.k0 s;refine zss rfl rfl ao F rfl λn5 U M=>?_;(try simp only[qt] at U);have d:=d.s1 M;have b:=b.kq M;have n:=n.kq M;have j:=j.q9 F M an;have h:=h.q9 F M an;refine za rfl (zz (c4 (zc λ_ f0=>Sr λ_ e8=>zm rfl (zT rfl (zm rfl (zv rfl (zv rfl (zv rfl (zv rfl (zt rfl rfl (zz (e8 ?_))))))))))));refine CW.nJ rfl ?_;have a8:(rdD o p bad).2.2.2.2=true:=Y.2 (λz=>by obtain ⟨_,l6,a9,_⟩:=z;rw[a4] at a9;cases a9);refine zR λ_ e2=>?_;refine zm rfl (zP rfl (zf rfl ?_));obtain ⟨a,c,hb,hr,hp,c8,d6,d7⟩:=id j;refine WL.bJ rfl rfl rfl hb oS rfl λc7 O k=>?_;simp only[List.set_cons_succ,List.set_cons_zero] at O;have j:=j.set hb O k;have b:=b.kq k;have n:=n.kq k;have h:=h.q9 hb k (by intro v hv;simp only[List.mem_cons,List.not_mem_nil,or_false] at hv;rcases hv with rfl|rfl|rfl<;>rfl);have d:=d.step k (λy G=>.inl G);refine WL.nil (e2 _ _ _ (f0 ?_));refine Sr λ_ e7=>zg n rfl ?_;refine zss rfl rfl ao b rfl λc7 t k=>?_;(try simp only[qt] at t);have d:=d.s1 k;have j:=j.q9 b k an;have h:=h.q9 b k an;have b:=t;refine zz (e7 ?_);refine zr (k9.qJ rfl (aZ.cell rfl (b.fJ rfl rfl)) ?_);refine ⟨_,_,_,_,_,_,rfl,h,b4,j,?_,?_,d⟩
  · exact a8.symm
  intro z;cases z
theorem cmpX_V(m:Nat)(e:Int)(n:Nat)(f:Int):c3j m e n f=bvx m e n f:=rfl
theorem d5q(neg:Bool)(m:Nat):(sgD neg m=0/\m=0)\/(sgD neg m = -1/\m≠0)\/(sgD neg m=1/\m≠0):=by
  unfold sgD
  by_cases h:m=0
  · exact .inl ⟨if_pos h,h⟩
  · rw[if_neg h]
    cases neg
    · exact .inr (.inr ⟨rfl,h⟩)
    · exact .inr (.inl ⟨rfl,h⟩)
theorem cmpV_zero(e f:Int):bvx 0 e 0 f=0:=by
  unfold bvx
  rw[Nat.zero_mul,Nat.zero_mul]
  rfl
set_option exponentiation.threshold 5000
theorem top_eq{k:Nat}(a:k≠0)(h:k<=1099511627776):cX false k 2048=gX (cJ (k:Int)) ayq:=by
  have e:=bhx (n:=(k:Int)) oO
  rw[show decide ((k:Int)<0)=false from decide_eq_false oO,show ((k:Int)).natAbs=k by omega] at e
  have i:=zJ a
  have g:bl k<=64:=vQ.2 oO
  have f:(wd (k/2^tz k)).length<=2:=aX.2 (Nat.lt_of_le_of_lt (Nat.div_le_self _ _) oO)
  have b:=(akj a).1
  rw[sJ a oO] at e
  rw[sJ a oO]
  have d:=Option.some.inj e
  rw[<- d,cmq (x:=⟨false,k/2^tz k,0+(tz k:Int)⟩) (y:=ayq) b oD (Nat.lt_of_le_of_lt (Nat.div_le_self _ _) (Nat.lt_of_lt_of_le (by omega:k<2^64) (Nat.pow_le_pow_right (by decide) (by decide)))) (Nat.lt_of_lt_of_le (by decide:ayq.m<2^1) (Nat.pow_le_pow_right (by decide) (by decide))) (by dsimp only;omega) oD]
  simp only[ayq,Nat.mul_one,bne_self_eq_false]
  congr 2
  omega
theorem r3Make_spec(neg:Bool)(v:Value)(l:List Nat)(e:Int)(w:World)(h:NU w v l)(B : -9223372036854775808<=e/\e<=9223372036854775807)(o:l.length<=34359738368):Ret Tryz.prog 158 [.bool neg,v,.int .i64 e] w λu w'=>DR w' u (cX neg (val l) e)/\Chg [] w w':=by
 have a:=crf w;have D:=h;refine zE3 Tryz.func158 rfl ?_;refine Sr λ_ n=>?_;refine zAh rfl rfl a λH z b x t m a=>?_;refine za rfl (zz (n (Sr λ_ k=>zm rfl (zm rfl (zm rfl ?_)))));refine WL.call hasF164 rfl rfl (a3x neg v l e _ (D.q8 a) B o) λv G F=>?_;obtain ⟨C,y⟩:=F;have a:=a.ta y;have b:=b.k0 y;rcases C with ⟨r,d,p,rfl,i⟩|⟨p,rfl⟩
 ·have A:=i.one;refine zx rfl rfl (zx rfl rfl ?_);refine zss rfl rfl ao b rfl λs f g=>?_;(try simp only[qt] at f);have a:=a.s1 g;have i:=i.q9 b g an;have b:=f;refine za rfl (zz (k ?_));refine zr (k9.iX rfl (aZ.cell rfl (b.fJ rfl rfl)) (aZ.tmp rfl) ?_);exact ⟨.inl ⟨_,d,p,rfl,i⟩,a⟩
 refine zx rfl rfl (zx rfl rfl ?_);refine zss rfl rfl ao b rfl λq f j=>?_;(try simp only[qt] at f);have a:=a.s1 j;have b:=f;refine za rfl (zz (k ?_));refine zr (k9.iX rfl (aZ.cell rfl (b.fJ rfl rfl)) (aZ.tmp rfl) ?_);exact ⟨.inr ⟨p,rfl⟩,a⟩
theorem dkx(J I:Bool)(Z Y:Value)(l k:List Nat)(Q O:Int)(w:World)(g:NU w Z l)(f:NU w Y k)(H : -9223372036854775808<=Q/\Q<=9223372036854775807)(G : -9223372036854775808<=O/\O<=9223372036854775807)(B:l.length<=17179869184)(A:k.length<=17179869184):Ret Tryz.prog 160 [.agg [.bool J,Z,.int .i64 Q].toArray,.agg [.bool I,Y,.int .i64 O].toArray] w λu w'=>u = .int .i64 (bqq J (val l) Q I (val k) O)/\Chg [] w w':=by
 have a:=crf w;have a6:=g.one;have a5:=f.one;refine zE2 Tryz.func160 rfl ?_;refine Sr λ_ X=>?_;refine zBh rfl rfl rfl a λb2 a2 b m a0 D a=>?_;have g:=g.q8 m;have f:=f.q8 m;refine zBh rfl rfl rfl a λb3 a1 d i F C a=>?_;have g:=g.q8 i;have f:=f.q8 i;have M:=zdd b.lt F;have b:=b.k0 i;refine za rfl (zz (X (Sr λ_ V=>zg b rfl ?_)));refine WL.call hasF157 rfl rfl (bgx _ _ _ _ _ g oO) λv w1 q=>?_;obtain ⟨rfl,e⟩:=q;have a4:=d5q J (val l);generalize hxa:sgD J (val l)=sa at *;have a:=a.ta e;have b:=b.k0 e;have d:=d.k0 e;have g:=g.q8 e;have f:=f.q8 e;refine za rfl (zz (V (Sr λ_ U=>zg d rfl ?_)));refine WL.call hasF157 rfl rfl (bgx _ _ _ _ _ f oO) λv w2 q=>?_;obtain ⟨rfl,e⟩:=q;have a3:=d5q I (val k);generalize hxb:sgD I (val k)=sb at *;have a:=a.ta e;have b:=b.k0 e;have d:=d.k0 e;have g:=g.q8 e;have f:=f.q8 e;refine za rfl (zz (U (zc λ_ T=>CW.block (Sr λ_ R=>zm rfl (zm rfl (zL rfl rfl (za rfl (zz (R ?_)))))))));refine zy rfl ?_ ?_<;>intro p<;>try simp only[qs] at p
 ·have h:sa<sb:=p
  refine Sr λ_ z=>za rfl (zz (z ?_));refine zr (zr1 rfl rfl ?_);refine ⟨?_,a⟩;unfold bqq;rw[hxa,hxb,if_pos h]
 have h : ¬sa<sb:=by have:=p;omega
 refine Sr λ_ y=>zm rfl (zm rfl (zG rfl rfl (za rfl (zz (y ?_)))));refine zy rfl ?_ ?_<;>intro o<;>try simp only[qs] at o
 ·have j:sb<sa:=o
  refine Sr λ_ x=>za rfl (zz (x ?_));refine zr (zr1 rfl rfl ?_);refine ⟨?_,a⟩;unfold bqq;rw[hxa,hxb,if_neg h,if_pos j]
 have j : ¬sb<sa:=by have:=o;omega
 refine Sr λ_ t=>zm rfl (zL rfl rfl (za rfl (zz (t ?_))));refine zy rfl ?_ ?_<;>intro n<;>try simp only[qs] at n
 ·have hn:sa<0:=n
  refine Sr λ_ s=>zf rfl (zl d rfl rfl (zf rfl (zl d rfl rfl (zf rfl (zl b rfl rfl (zf rfl (zl b rfl rfl ?_)))))));refine WL.call hasF225 rfl rfl (aax _ _ k l _ _ _ f g G H A B) λv w3 q=>?_;obtain ⟨rfl,e⟩:=q;have a:=a.ta e;refine za rfl (zz (s ?_));refine zr (zr1 rfl rfl ?_);refine ⟨?_,a⟩;unfold bqq;rw[hxa,hxb,if_neg h,if_neg j,if_neg oO,show sa = -1 by omega,cmpX_V,<- cmpV_swap]
  congr 1;omega
 have hn : ¬sa<0:=by have:=n;omega
 refine zkk (T (Sr λ_ r=>zf rfl (zl b rfl rfl (zf rfl (zl b rfl rfl (zf rfl (zl d rfl rfl (zf rfl (zl d rfl rfl ?_)))))))));refine WL.call hasF225 rfl rfl (aax _ _ l k _ _ _ g f H G B A) λv w4 q=>?_;obtain ⟨rfl,e⟩:=q;have a:=a.ta e;refine za rfl (zz (r ?_));refine zr (zr1 rfl rfl ?_);refine ⟨?_,a⟩;unfold bqq;rw[hxa,hxb,if_neg h,if_neg j,cmpX_V]
 by_cases h0:sa=0
 · rw[if_pos h0,show val l=0 by omega,show val k=0 by omega,cmpV_zero]
 rw[if_neg h0,show sa=1 by omega,Int.one_mul]
theorem r21sums_spec(b:Nat)(S:Sh)(w:World)(p:ShM 148 w b S)(k3:S.s.le 1099511627776)(M:S.V.ok)(X:S.Q.ok)(n6:0<=S.pln):Ret Tryz.prog 92 [.pointer (some ⟨b,0,none⟩)] w λu w'=>u = .bool (decide (sQ S))/\Chg [] w w':=by
 obtain ⟨rv,rq,y,g,f⟩:=p;obtain ⟨i7,i6,i5,i4,i3,i2⟩:=k3;obtain ⟨⟨av,cv,i1,o3,n4⟩,-,o0⟩:=id g;obtain ⟨⟨aq,cq,i8,o4,n5⟩,-,o2⟩:=id f;subst i1 i8;have n2:=asx (n:=S.V.m);have n3:=asx (n:=S.Q.m);have a:=crf w;refine zE1 Tryz.func92 rfl ?_;refine Sr λ_ i0=>za rfl (zz (i0 (Sr λ_ h9=>zm rfl (zP rfl (zf rfl ?_)))));refine WL.ev (Ev.fZ (cs:=[.int .i64 (S.s.na:Int),.int .i64 (S.s.up:Int),.int .i64 (S.s.dn:Int),.int .i64 (S.s.mi:Int),.int .i64 (S.s.pl:Int),.int .i64 (S.s.al:Int)]) rfl rfl y rfl rfl) rfl ?_;refine WL.call hasF156 rfl rfl (caq S.s _ ⟨i7,i6,i5,i4,i3,i2⟩) λv w1 h'=>?_;obtain ⟨rfl,t⟩:=h';obtain ⟨k,hk⟩ : ∃ k:Nat,S.pln=(k:Int):=⟨S.pln.toNat,by omega⟩;rw[show ((S.s.al:Int)-S.s.na-S.s.up-S.s.dn-S.s.mi-S.s.pl)=S.pln from rfl,hk];have k5:k<=1099511627776:=by unfold Sh.pln Sh.fin at hk;omega
 have n7:=g.one;have n9:=f.one;have a:=a.ta t;have y:=y.q8 t;have g:=g.q8 t;have f:=f.q8 t;refine za rfl (zz (h9 (zc λ_ h8=>Sr λ_ h7=>zm rfl (zq rfl rfl (zz (h7 ?_))))));refine zy rfl ?_ ?_<;>intro e0<;>try simp only[qs] at e0
 ·have h0:k=0:=by have:=e0;omega
  refine Sr λ_ e9=>zm rfl (zP rfl (zf rfl (zf rfl ?_)));refine WL.ev (Ev.load (v:=.slice av (wd S.V.m).length cv) rfl rfl (y.at_ rfl)) rfl ?_;refine zn rfl (zq rfl rfl (zm rfl ?_));refine zb ?_ ?_<;>intro l3<;>try simp only[qs] at l3
  ·refine zw rfl (zm rfl (zw rfl (zP rfl (zw rfl (zf rfl (zw rfl (zf rfl (zw rfl ?_))))))));refine WL.ev (Ev.load (v:=.slice aq (wd S.Q.m).length cq) rfl rfl (y.at_ rfl)) rfl ?_
   refine zw rfl (zn rfl (zw rfl (zq rfl rfl (zt rfl rfl (za rfl (zz (e9 ?_)))))));refine zr (zr1 rfl rfl ?_);refine ⟨congrArg Value.bool ?_,a⟩;have e:sQ S↔(S.V.m=0/\S.Q.m=0):=by unfold sQ;rw[hk,if_pos oO]
   first|exact decide_eq_decide.2 (by rw[e];omega)|exact (decide_eq_false (by rw[e];omega)).symm
  refine zv rfl (zv rfl (zv rfl (zv rfl (zv rfl (zv rfl (zv rfl (ze rfl rfl (za rfl (zz (e9 ?_))))))))));refine zr (zr1 rfl rfl ?_);refine ⟨congrArg Value.bool ?_,a⟩;have e:sQ S↔(S.V.m=0/\S.Q.m=0):=by unfold sQ;rw[hk,if_pos oO]
  first|exact decide_eq_decide.2 (by rw[e];omega)|exact (decide_eq_false (by rw[e];omega)).symm
 have h0:k≠0:=by have:=e0;omega
 have e6 : ¬((k:Int)=0):=by omega
 refine zkk (h8 (zc λ_ f3=>?_));refine CW.azx 64 (decide (sgD S.Q.neg S.Q.m<=0\/S.Q.e < -2148\/(S.V.m≠0/\S.V.e < -1074))) ?_ ?_
 ·intro a0;refine zS λ_ b1=>zm rfl (zP rfl (zf rfl ?_));refine WL.ev (Ev.fZ rfl rfl y rfl rfl) rfl ?_
  try simp only[oL]
  refine WL.call hasF157 rfl rfl (bgx _ _ _ _ _ f (by have:=X.len;omega)) λv w2 h'=>?_;obtain ⟨rfl,t⟩:=h';rw[g7];have a0:=a0.ta t;have y:=y.q8 t;refine zQ rfl rfl (zm rfl ?_);refine zb ?_ ?_<;>intro l2<;>try simp only[qs] at l2
  ·refine zv rfl (zv rfl (zv rfl (zv rfl (zv rfl (zv rfl (zt rfl rfl (zm rfl (zv rfl (zv rfl (zv rfl (zv rfl (zv rfl (zv rfl (zv rfl (zv rfl (zu rfl (zu rfl (zu rfl (zu rfl (zu rfl (zu rfl (zv rfl (zt rfl rfl ?_)))))))))))))))))))))));refine zz (b1 ?_);refine ⟨rfl,a0,j0.g8 rfl ?_ ?_⟩
   ·exact AqE
   exact SMg
  refine zw rfl (zm rfl (zw rfl (zP rfl (zw rfl (zf rfl (zw rfl (zf rfl (zw rfl (zl y rfl rfl (zw rfl (zL rfl rfl (ze rfl rfl (zm rfl ?_)))))))))))));refine zb ?_ ?_<;>intro l1<;>try simp only[qs] at l1
  ·refine zv rfl (zv rfl (zv rfl (zv rfl (zv rfl (zv rfl (zv rfl (zv rfl (zu rfl (zu rfl (zu rfl (zu rfl (zu rfl (zu rfl (zv rfl (zt rfl rfl (zz (b1 ?_)))))))))))))))));refine ⟨rfl,a0,j0.g8 rfl ?_ ?_⟩
   ·exact AqE
   exact SMg
  refine zw rfl (zm rfl (zw rfl (zP rfl (zw rfl (zf rfl (zw rfl (zf rfl (zw rfl ?_))))))));refine WL.ev (Ev.load (v:=.slice av (wd S.V.m).length cv) rfl rfl (y.at_ rfl)) rfl ?_;refine zw rfl (zn rfl (zw rfl (zG rfl rfl (zw rfl (zm rfl ?_)))));refine zb ?_ ?_<;>intro l0<;>try simp only[qs] at l0
  ·refine zw rfl (zm rfl (zw rfl (zP rfl (zw rfl (zf rfl (zw rfl (zf rfl (zw rfl (zl y rfl rfl (zw rfl (zL rfl rfl (zw rfl (zt rfl rfl (ze rfl rfl (zz (b1 ?_))))))))))))))));refine ⟨rfl,a0,j0.g8 rfl ?_ ?_⟩
   ·exact AqE
   exact SMg
  refine zv rfl (zv rfl (zv rfl (zv rfl (zv rfl (zv rfl (zw rfl (ze rfl rfl (ze rfl rfl (zz (b1 ?_))))))))));refine ⟨rfl,a0,j0.g8 rfl ?_ ?_⟩
  ·exact AqE
  exact SMg
 intro wM a0;have a:=a.ta a0;have y:=y.q8 a0;have g:=g.q8 a0;have f:=f.q8 a0;refine zy rfl ?_ ?_<;>intro d9<;>try simp only[qs] at d9
 ·have h1:sgD S.Q.neg S.Q.m<=0\/S.Q.e < -2148\/(S.V.m≠0/\S.V.e < -1074):=by simpa using d9
  refine Sr λ_ f2=>za rfl (zz (f2 ?_));refine zr (zr1 rfl rfl ?_);refine ⟨congrArg Value.bool (decide_eq_false λz=>?_).symm,a⟩;unfold sQ at z;rw[hk,if_neg e6] at z;exact z.1 h1
 have h1 : ¬(sgD S.Q.neg S.Q.m<=0\/S.Q.e < -2148\/(S.V.m≠0/\S.V.e < -1074)):=by simpa using d9
 refine zkk (f3 (Sr λ_ f1=>zm rfl ?_));refine WL.call hasF109 rfl rfl (baj (k:Int) _ oO) λv w3 h'=>?_;obtain ⟨⟨rn,rfl,j⟩,t⟩:=h';have f7:=j.one;have a2:(cJ (k:Int)).ok:=xZ oO;have a:=a.ta t;have y:=y.q8 t;have g:=g.q8 t;have f:=f.q8 t;refine zAh rfl rfl a λb4 m8 i b2 m5 f9 a=>?_;have g:=g.q8 b2;have f:=f.q8 b2;have j:=j.q8 b2;have k2:b≠b4:=by have:=y.lt;omega
 have y:=y.q8 b2;refine zss rfl rfl ao i rfl λm0 d4 Z=>?_;(try simp only[qt] at d4);have a:=a.s1 Z;have y:=y.kq Z;have g:=g.q9 i Z an;have f:=f.q9 i Z an;have j:=j.q9 i Z an;have i:=d4;refine zz (f1 (Sr λ_ f0=>zm rfl ?_));refine WL.ev (Ev.eZ rfl rfl (jX oO)) rfl ?_;refine WL.call hasF159 rfl rfl (bnx k _ oO) λv w4 h'=>?_;obtain ⟨e5,t,o5⟩:=h';have m4:=e5.one;have k4:(wd k).length<=34359738368:=by have:=e5.len;have:=(aX (n:=k) (k:=2)).2 oO;omega
 have a:=a.ta t;have y:=y.q8 t;have i:=i.k0 t;have g:=g.q8 t;have f:=f.q8 t;have j:=j.q8 t;refine WL.call hasF158 rfl rfl (r3Make_spec false _ (wd k) 2048 _ e5 oO k4) λv w5 h'=>?_;obtain ⟨hD,t⟩:=h';rw[g7,top_eq h0 k5] at hD;obtain ⟨rt,kt,rfl,q⟩:=hD.blx;have f4:=q.one;have a:=a.ta t;have y:=y.q8 t;have i:=i.k0 t;have g:=g.q8 t;have f:=f.q8 t;have j:=j.q8 t;refine zm rfl (zx rfl rfl (zx rfl rfl ?_));refine zAh rfl rfl a λb5 m7 o a3 g0 f8 a=>?_;have g:=g.q8 a3;have f:=f.q8 a3;have j:=j.q8 a3;have q:=q.q8 a3;have k1:b≠b5:=by have:=y.lt;omega
 have y:=y.q8 a3;have h2:=zdd i.lt g0;have i:=i.k0 a3;refine zss rfl rfl ao o rfl λl9 d3 U=>?_;(try simp only[qt] at d3);have a:=a.s1 U;have y:=y.kq U;have i:=i.kq U;have g:=g.q9 o U an;have f:=f.q9 o U an;have j:=j.q9 o U an;have q:=q.q9 o U an;have o:=d3;refine za rfl (zz (f0 ?_));refine CW.anj (λD s' w'=>D=[]/\∃ (b7:Nat) (rs:Value),BK w' b 148 [.int .i64 (S.s.na:Int),.int .i64 (S.s.up:Int),.int .i64 (S.s.dn:Int),.int .i64 (S.s.mi:Int),.int .i64 (S.s.pl:Int),.int .i64 (S.s.al:Int),.bool S.V.neg,.slice av (wd S.V.m).length cv,.int .i64 S.V.e,.bool S.Q.neg,.slice aq (wd S.Q.m).length cq,.int .i64 S.Q.e,.float .f64 S.lo,.float .f64 S.hi]/\NU w' (.slice av (wd S.V.m).length cv) (wd S.V.m)/\NU w' (.slice aq (wd S.Q.m).length cq) (wd S.Q.m)/\BK w' b4 89 [.bool (cJ (k:Int)).neg,rn,.int .i64 (cJ (k:Int)).e]/\NU w' rn (wd (cJ (k:Int)).m)/\BK w' b5 89 [.bool ((gX (cJ (k:Int)) ayq).getD Dy.zero).neg,rt,.int .i64 ((gX (cJ (k:Int)) ayq).getD Dy.zero).e]/\NU w' rt (wd ((gX (cJ (k:Int)) ayq).getD Dy.zero).m)/\BK w' b7 89 [.bool ((gX S.V S.V).getD Dy.zero).neg,rs,.int .i64 ((gX S.V S.V).getD Dy.zero).e]/\NU w' rs (wd ((gX S.V S.V).getD Dy.zero).m)/\Chg [] w w'/\j0 [(0,.pointer (some ⟨b,0,none⟩)),(4,.pointer (some ⟨b4,0,none⟩)),(5,.pointer (some ⟨b5,0,none⟩)),(7,.pointer (some ⟨b7,0,none⟩))] s') ?_ ?_
 ·refine CW.cQ 15 rfl dZ λm3 d1 p B=>?_;have a:=a.ta B;have y:=y.q8 B;have i:=i.k0 B;have o:=o.k0 B;have g:=g.q8 B;have f:=f.q8 B;have j:=j.q8 B;have q:=q.q8 B;have a4:=y;refine wh 0 rfl p (eM rfl) (wh 1 rfl p (eP rfl) (wh 2 rfl p (eF rfl) (wh 3 rfl p (λ_ T=>Ev.fZ rfl rfl (a4.q8 T) rfl rfl) ?_)))
  try simp only[oL]
  refine wh 4 rfl p (eM rfl) (wh 5 rfl p (eP rfl) (wh 6 rfl p (eF rfl) (wh 7 rfl p (λ_ T=>Ev.fZ rfl rfl (a4.q8 T) rfl rfl) ?_)))
  try simp only[oL]
  refine WH.c4q 8 12 oR ?_ ?_
  ·refine ahj.call 8 rfl hasF96 rfl rfl (sZ _ _ _ _ _ _ _ _ _ g g (bX M) (bX M) (by have:=M.len;omega) (by have:=M.len;omega)) λv w6 h'=>?_;obtain ⟨hD,t⟩:=h';rw[jJ M M] at hD;obtain ⟨rs,h6,rfl,x⟩:=hD.blx;have f6:=x.one;have a:=a.ta t;have y:=y.q8 t;have i:=i.k0 t;have o:=o.k0 t;have g:=g.q8 t;have f:=f.q8 t;have j:=j.q8 t;have q:=q.q8 t;have p:=p.trans t;refine ⟨p,?_⟩;refine wh 9 rfl p (eM rfl) (wh 10 rfl p (eX rfl rfl) (wh 11 rfl p (eX rfl rfl) ?_));refine WH.wQ (l:=[.bool false,.slice none 0 0,.int .i64 0]) 12 rfl oR p rfl rfl λb7 h4 r C Y a9=>?_;have a8:=Nat.le_trans p.size Y;have p:=a9;have c2:=Nat.le_trans a.size Y;have a:=a.ta C;have g:=g.q8 C;have f:=f.q8 C;have j:=j.q8 C;have q:=q.q8 C;have x:=x.q8 C;have d7:b≠b7:=by have:=y.lt;omega
   have y:=y.q8 C;have c7:=zdd i.lt Y;have i:=i.k0 C;have c5:=zdd o.lt Y;have o:=o.k0 C;refine WH.sX 13 rfl oR p a8 rfl rfl rfl ao r oS rfl λl8 a6 J p=>?_;(try simp only[qt] at a6);have a:=a.s1 J;have y:=y.kq J;have i:=i.kq J;have o:=o.kq J;have g:=g.q9 r J an;have f:=f.q9 r J an;have j:=j.q9 r J an;have q:=q.q9 r J an;have x:=x.q9 r J an;have r:=a6;refine wh 14 rfl p (eA rfl) ?_;refine WH.done oR (d1 _ _ _ ?_);exact ⟨rfl,b7,rs,y,g,f,i,j,o,q,r,x,a,by (repeat (first|exact j0.nil|refine j0.cons rfl ?_))⟩
  refine ahj.wQ (l:=[.bool false,.slice none 0 0,.int .i64 0]) 12 rfl p rfl rfl λb7 h4 r C Y a9=>?_;have a8:=Nat.le_trans p.size Y;have p:=a9;have c2:=Nat.le_trans a.size Y;have a:=a.ta C;have g:=g.q8 C;have f:=f.q8 C;have j:=j.q8 C;have q:=q.q8 C;have d7:b≠b7:=by have:=y.lt;omega
  have y:=y.q8 C;have c7:=zdd i.lt Y;have i:=i.k0 C;have c5:=zdd o.lt Y;have o:=o.k0 C;refine WH.k7 8 rfl oR hasF96 rfl rfl (sZ _ _ _ _ _ _ _ _ _ g g (bX M) (bX M) (by have:=M.len;omega) (by have:=M.len;omega)) λv w7 h'=>?_;obtain ⟨hD,t⟩:=h';rw[jJ M M] at hD;obtain ⟨rs,h6,rfl,x⟩:=hD.blx;have f6:=x.one;have a:=a.ta t;have y:=y.q8 t;have i:=i.k0 t;have o:=o.k0 t;have r:=r.k0 t;have g:=g.q8 t;have f:=f.q8 t;have j:=j.q8 t;have q:=q.q8 t;have p:=p.trans t;refine ⟨p,?_⟩;refine wh 9 rfl p (eM rfl) (wh 10 rfl p (eX rfl rfl) (wh 11 rfl p (eX rfl rfl) ?_));refine WH.sX 13 rfl oR p a8 rfl rfl rfl ao r oS rfl λl7 a6 I p=>?_;(try simp only[qt] at a6);have a:=a.s1 I;have y:=y.kq I;have i:=i.kq I;have o:=o.kq I;have g:=g.q9 r I an;have f:=f.q9 r I an;have j:=j.q9 r I an;have q:=q.q9 r I an;have x:=x.q9 r I an;have r:=a6;refine wh 14 rfl p (eA rfl) ?_;refine WH.done oR (d1 _ _ _ ?_);exact ⟨rfl,b7,rs,y,g,f,i,j,o,q,r,x,a,by (repeat (first|exact j0.nil|refine j0.cons rfl ?_))⟩
 rintro _ s' wJ ⟨rfl,b7,rs,y,g,f,i,j,o,q,r,x,a,b8⟩;refine CW.sub b8 ?_;have f7:=j.one;have f4:=q.one;have i9:=x.one;refine CW.anj (λD s' w'=>D=[]/\∃ (b7:Nat) (rs:Value) (b9:Nat) (ru:Value),BK w' b 148 [.int .i64 (S.s.na:Int),.int .i64 (S.s.up:Int),.int .i64 (S.s.dn:Int),.int .i64 (S.s.mi:Int),.int .i64 (S.s.pl:Int),.int .i64 (S.s.al:Int),.bool S.V.neg,.slice av (wd S.V.m).length cv,.int .i64 S.V.e,.bool S.Q.neg,.slice aq (wd S.Q.m).length cq,.int .i64 S.Q.e,.float .f64 S.lo,.float .f64 S.hi]/\NU w' (.slice av (wd S.V.m).length cv) (wd S.V.m)/\NU w' (.slice aq (wd S.Q.m).length cq) (wd S.Q.m)/\BK w' b4 89 [.bool (cJ (k:Int)).neg,rn,.int .i64 (cJ (k:Int)).e]/\NU w' rn (wd (cJ (k:Int)).m)/\BK w' b5 89 [.bool ((gX (cJ (k:Int)) ayq).getD Dy.zero).neg,rt,.int .i64 ((gX (cJ (k:Int)) ayq).getD Dy.zero).e]/\NU w' rt (wd ((gX (cJ (k:Int)) ayq).getD Dy.zero).m)/\BK w' b7 89 [.bool ((gX S.V S.V).getD Dy.zero).neg,rs,.int .i64 ((gX S.V S.V).getD Dy.zero).e]/\NU w' rs (wd ((gX S.V S.V).getD Dy.zero).m)/\BK w' b9 89 [.bool ((gX (cJ (k:Int)) S.Q).getD Dy.zero).neg,ru,.int .i64 ((gX (cJ (k:Int)) S.Q).getD Dy.zero).e]/\NU w' ru (wd ((gX (cJ (k:Int)) S.Q).getD Dy.zero).m)/\Chg [] w w'/\j0 [(0,.pointer (some ⟨b,0,none⟩)),(4,.pointer (some ⟨b4,0,none⟩)),(5,.pointer (some ⟨b5,0,none⟩)),(7,.pointer (some ⟨b7,0,none⟩)),(9,.pointer (some ⟨b9,0,none⟩))] s') ?_ ?_
 ·refine CW.cQ 12 rfl dZ λm2 d0 p B=>?_;have a:=a.ta B;have y:=y.q8 B;have i:=i.k0 B;have o:=o.k0 B;have r:=r.k0 B;have g:=g.q8 B;have f:=f.q8 B;have j:=j.q8 B;have q:=q.q8 B;have x:=x.q8 B;have a4:=y;have e4:=i;refine wh 0 rfl p (λ_ T=>Ev.rZ rfl rfl (e4.q8 T) rfl) (wh 1 rfl p (eM rfl) (wh 2 rfl p (eP rfl) (wh 3 rfl p (eF rfl) (wh 4 rfl p (λ_ T=>Ev.fZ rfl rfl (a4.q8 T) rfl rfl) ?_))))
  try simp only[oL]
  refine WH.c4q 5 9 oR ?_ ?_
  ·refine ahj.call 5 rfl hasF96 rfl rfl (sZ _ _ _ _ _ _ _ _ _ j f (bX a2) (bX X) (by have:=a2.len;omega) (by have:=X.len;omega)) λv w8 h'=>?_;obtain ⟨hD,t⟩:=h';rw[jJ a2 X] at hD;obtain ⟨ru,h5,rfl,O⟩:=hD.blx;have f5:=O.one;have a:=a.ta t;have y:=y.q8 t;have i:=i.k0 t;have o:=o.k0 t;have r:=r.k0 t;have g:=g.q8 t;have f:=f.q8 t;have j:=j.q8 t;have q:=q.q8 t;have x:=x.q8 t;have p:=p.trans t;refine ⟨p,?_⟩;refine wh 6 rfl p (eM rfl) (wh 7 rfl p (eX rfl rfl) (wh 8 rfl p (eX rfl rfl) ?_));refine WH.wQ (l:=[.bool false,.slice none 0 0,.int .i64 0]) 9 rfl oR p rfl rfl λb9 h3 F A R a9=>?_;have a7:=Nat.le_trans p.size R;have p:=a9;have c1:=Nat.le_trans a.size R;have a:=a.ta A;have g:=g.q8 A;have f:=f.q8 A;have j:=j.q8 A;have q:=q.q8 A;have x:=x.q8 A;have O:=O.q8 A;have d6:b≠b9:=by have:=y.lt;omega
   have y:=y.q8 A;have c6:=zdd i.lt R;have i:=i.k0 A;have c4:=zdd o.lt R;have o:=o.k0 A;have c3:=zdd r.lt R;have r:=r.k0 A;refine WH.sX 10 rfl oR p a7 rfl rfl rfl ao F oS rfl λl6 a5 H p=>?_;(try simp only[qt] at a5);have a:=a.s1 H;have y:=y.kq H;have i:=i.kq H;have o:=o.kq H;have r:=r.kq H;have g:=g.q9 F H an;have f:=f.q9 F H an;have j:=j.q9 F H an;have q:=q.q9 F H an;have x:=x.q9 F H an;have O:=O.q9 F H an;have F:=a5;refine wh 11 rfl p (eA rfl) ?_;refine WH.done oR (d0 _ _ _ ?_);exact ⟨rfl,b7,rs,b9,ru,y,g,f,i,j,o,q,r,x,F,O,a,by (repeat (first|exact j0.nil|refine j0.cons rfl ?_))⟩
  refine ahj.wQ (l:=[.bool false,.slice none 0 0,.int .i64 0]) 9 rfl p rfl rfl λb9 h3 F A R a9=>?_;have a7:=Nat.le_trans p.size R;have p:=a9;have c1:=Nat.le_trans a.size R;have a:=a.ta A;have g:=g.q8 A;have f:=f.q8 A;have j:=j.q8 A;have q:=q.q8 A;have x:=x.q8 A;have d6:b≠b9:=by have:=y.lt;omega
  have y:=y.q8 A;have c6:=zdd i.lt R;have i:=i.k0 A;have c4:=zdd o.lt R;have o:=o.k0 A;have c3:=zdd r.lt R;have r:=r.k0 A;refine WH.k7 5 rfl oR hasF96 rfl rfl (sZ _ _ _ _ _ _ _ _ _ j f (bX a2) (bX X) (by have:=a2.len;omega) (by have:=X.len;omega)) λv w9 h'=>?_;obtain ⟨hD,t⟩:=h';rw[jJ a2 X] at hD;obtain ⟨ru,h5,rfl,O⟩:=hD.blx;have f5:=O.one;have a:=a.ta t;have y:=y.q8 t;have i:=i.k0 t;have o:=o.k0 t;have r:=r.k0 t;have F:=F.k0 t;have g:=g.q8 t;have f:=f.q8 t;have j:=j.q8 t;have q:=q.q8 t;have x:=x.q8 t;have p:=p.trans t;refine ⟨p,?_⟩;refine wh 6 rfl p (eM rfl) (wh 7 rfl p (eX rfl rfl) (wh 8 rfl p (eX rfl rfl) ?_));refine WH.sX 10 rfl oR p a7 rfl rfl rfl ao F oS rfl λl5 a5 G p=>?_;(try simp only[qt] at a5);have a:=a.s1 G;have y:=y.kq G;have i:=i.kq G;have o:=o.kq G;have r:=r.kq G;have g:=g.q9 F G an;have f:=f.q9 F G an;have j:=j.q9 F G an;have q:=q.q9 F G an;have x:=x.q9 F G an;have O:=O.q9 F G an;have F:=a5;refine wh 11 rfl p (eA rfl) ?_;refine WH.done oR (d0 _ _ _ ?_);exact ⟨rfl,b7,rs,b9,ru,y,g,f,i,j,o,q,r,x,F,O,a,by (repeat (first|exact j0.nil|refine j0.cons rfl ?_))⟩
 rintro _ s' wJ ⟨rfl,b7,rs,b9,ru,y,g,f,i,j,o,q,r,x,F,O,a,b8⟩;refine CW.sub b8 ?_;have f7:=j.one;have f4:=q.one;have i9:=x.one;have n8:=O.one;refine zc λ_ d2=>?_;refine CW.cQ 14 rfl dZ λm1 c9 p B=>?_;have a:=a.ta B;have y:=y.q8 B;have o:=o.k0 B;have r:=r.k0 B;have F:=F.k0 B;have f:=f.q8 B;have q:=q.q8 B;have x:=x.q8 B;have O:=O.q8 B;have a4:=y;have e3:=o;have e2:=r;have e1:=F;refine wh 0 rfl p (eM rfl) (wh 1 rfl p (eP rfl) (wh 2 rfl p (eF rfl) (wh 3 rfl p (λ_ T=>Ev.fZ rfl rfl (a4.q8 T) rfl rfl) ?_)))
 try simp only[oL]
 refine wh 4 rfl p (λ_ T=>Ev.rZ rfl rfl (e3.q8 T) rfl) ?_;refine WH.k7 5 rfl oR hasF160 rfl rfl (dkx _ _ _ _ _ _ _ _ _ f q (bX X) (bX (tZ λd h=>mJ h:((gX (cJ (k:Int)) ayq).getD Dy.zero).ok)) (by have:=(X:Dy.ok _).len;omega) (by have:=((tZ λd h=>mJ h:((gX (cJ (k:Int)) ayq).getD Dy.zero).ok):Dy.ok _).len;omega)) λv n1 h'=>?_;obtain ⟨rfl,t⟩:=h';rw[g7,g7];have a:=a.ta t;have x:=x.q8 t;have O:=O.q8 t;have p:=p.trans t;refine ⟨p,?_⟩
 by_cases hq100:cmpY S.Q ((gX (cJ (k:Int)) ayq).getD Dy.zero)<0
 ·refine wh 6 rfl p (λ_ _=>Ev.lss rfl rfl) ?_;rw[show decide (bqq _ _ _ _ _ _<0)=true from decide_eq_true hq100];refine wh 7 rfl p (eM rfl) (wg 8 rfl rfl rfl rfl rfl p (λ_ T=>Ev.rZ rfl rfl (e2.q8 T) rfl) (wg 9 rfl rfl rfl rfl rfl p (λ_ T=>Ev.rZ rfl rfl (e1.q8 T) rfl) ?_));refine WH.rX 10 rfl oR rfl rfl rfl rfl hasF160 rfl rfl (dkx _ _ _ _ _ _ _ _ _ x O (bX (tZ λd h=>mJ h:((gX S.V S.V).getD Dy.zero).ok)) (bX (tZ λd h=>mJ h:((gX (cJ (k:Int)) S.Q).getD Dy.zero).ok)) (by have:=((tZ λd h=>mJ h:((gX S.V S.V).getD Dy.zero).ok):Dy.ok _).len;omega) (by have:=((tZ λd h=>mJ h:((gX (cJ (k:Int)) S.Q).getD Dy.zero).ok):Dy.ok _).len;omega)) λv n0 h'=>?_;obtain ⟨rfl,t⟩:=h';rw[g7,g7];have a:=a.ta t;have p:=p.trans t;refine ⟨p,?_⟩;refine wg 11 rfl rfl rfl rfl rfl p (λ_ _=>Ev.leq rfl rfl) (wh 12 rfl p (λ_ _=>Ev.aeq rfl rfl rfl) (wh 13 rfl p (eA rfl) ?_));refine WH.done oR (c9 _ _ _ ?_);refine d2 ?_;refine zr (zr1 rfl rfl ?_);refine ⟨congrArg Value.bool (decide_eq_decide.2 ?_),a⟩;unfold sQ;rw[hk,if_neg e6];exact ⟨λz=>⟨h1,hq100,z⟩,λz=>z.2.2⟩
 refine wh 6 rfl p (λ_ _=>Ev.lss rfl rfl) ?_;rw[show decide (bqq _ _ _ _ _ _<0)=false from decide_eq_false hq100];refine wh 7 rfl p (eM rfl) (wp 8 rfl rfl rfl rfl rfl p (wp 9 rfl rfl rfl rfl rfl p ?_));refine WH.a0x 10 rfl oR rfl rfl rfl rfl p rfl ?_;refine wp 11 rfl rfl rfl rfl rfl p (wh 12 rfl p (λ_ _=>Ev.aox rfl rfl rfl) (wh 13 rfl p (eA rfl) ?_));refine WH.done oR (c9 _ _ _ ?_);refine d2 ?_;refine zr (zr1 rfl rfl ?_);refine ⟨congrArg Value.bool (decide_eq_false λz=>?_).symm,a⟩;unfold sQ at z;rw[hk,if_neg e6] at z;exact hq100 z.2.1
theorem inf_m{x:Nat}: lX x (-1)↔x=18442240474082181120:=by simp[lX]
theorem inf_p{x:Nat}: lX x 1↔x=9218868437227405312:=by simp[lX]
theorem inf_0{x:Nat}: lX x 0↔x%9223372036854775808=9218868437227405312:=by simp[lX]
theorem k_le5(x:Nat):k8 x<=5:=by
  unfold k8
  repeat' split
  all_goals omega
theorem end_lo{S:Sh}(a:S.lo<18446744073709551616)(d:cZ S.s)(b:S.some)(n:k8 S.lo≠5):arx S.lo (-1) S.s.dn S.s.up S.s.mi S↔(if 0<S.s.dn then k8 S.lo=4 else if S.fin=0 then k8 S.lo=3 else if S.pln=0/\0<S.s.mi then k8 S.lo=1 else if S.pln=0 then k8 S.lo=2 else k8 S.lo<=2):=by
  obtain ⟨e,g,h,j,i⟩:=kd a
  have l:=k_le5 S.lo
  unfold cZ at d
  unfold Sh.some at b
  have m:S.fin=(S.s.al:Int)-S.s.na-S.s.up-S.s.dn:=rfl
  have k:S.pln=S.fin-S.s.mi-S.s.pl:=rfl
  unfold arx
  simp only[inf_m,show (-(-1:Int))=1 from rfl,inf_p,inf_0]
  generalize S.fin=f at *
  generalize S.pln=p at *
  generalize S.lo=x at *
  by_cases a1:0<S.s.dn
  · rw[if_pos a1,if_pos a1];omega
  rw[if_neg a1,if_neg a1]
  by_cases a2:f=0
  · rw[if_pos a2,if_pos a2];omega
  rw[if_neg a2,if_neg a2]
  by_cases a3:p=0
  · by_cases a4:0<S.s.mi
    · rw[if_pos (show p=0/\0<S.s.mi from ⟨a3,a4⟩)]
      split
      · simp only[false_iff];omega
      · rw[if_neg oO];simp only[a4,iff_true];omega
    · rw[if_neg (show ¬(p=0/\0<S.s.mi) by omega),if_pos a3]
      split
      · simp only[false_iff];omega
      · rw[if_neg oO];simp only[a4,iff_false];omega
  · rw[if_neg (show ¬(p=0/\0<S.s.mi) by omega),if_neg a3]
    split
    · simp only[false_iff];omega
    · rw[if_pos oO];simp only[true_iff];omega
theorem end_hi{S:Sh}(a:S.hi<18446744073709551616)(d:cZ S.s)(b:S.some)(n:k8 S.hi≠5):arx S.hi 1 S.s.up S.s.dn S.s.pl S↔(if 0<S.s.up then k8 S.hi=3 else if S.fin=0 then k8 S.hi=4 else if S.pln=0/\0<S.s.pl then k8 S.hi=2 else if S.pln=0 then k8 S.hi=1 else k8 S.hi<=2):=by
  obtain ⟨e,g,h,j,i⟩:=kd a
  have l:=k_le5 S.hi
  unfold cZ at d
  unfold Sh.some at b
  have m:S.fin=(S.s.al:Int)-S.s.na-S.s.up-S.s.dn:=rfl
  have k:S.pln=S.fin-S.s.mi-S.s.pl:=rfl
  unfold arx
  simp only[inf_p,inf_m,inf_0]
  generalize S.fin=f at *
  generalize S.pln=p at *
  generalize S.hi=x at *
  by_cases a1:0<S.s.up
  · rw[if_pos a1,if_pos a1];omega
  rw[if_neg a1,if_neg a1]
  by_cases a2:f=0
  · rw[if_pos a2,if_pos a2];omega
  rw[if_neg a2,if_neg a2]
  by_cases a3:p=0
  · by_cases a4:0<S.s.pl
    · rw[if_pos (show p=0/\0<S.s.pl from ⟨a3,a4⟩)]
      split
      · simp only[false_iff];omega
      · rw[if_neg oO];simp only[a4,iff_true];omega
    · rw[if_neg (show ¬(p=0/\0<S.s.pl) by omega),if_pos a3]
      split
      · simp only[false_iff];omega
      · rw[if_neg oO];simp only[a4,iff_false];omega
  · rw[if_neg (show ¬(p=0/\0<S.s.pl) by omega),if_neg a3]
    split
    · simp only[false_iff];omega
    · rw[if_pos oO];simp only[true_iff];omega
theorem r21ends_spec(b:Nat)(S:Sh)(w:World)(d:ShM 148 w b S)(e9:S.s.le 1099511627776)(o:S.lo<18446744073709551616)(p:S.hi<18446744073709551616)(d9:cZ S.s)(d2:S.some):Ret Tryz.prog 93 [.pointer (some ⟨b,0,none⟩)] w λu w'=>u = .bool (decide (vX S))/\Chg [] w w':=by
  obtain ⟨rv,rq,h,f,g⟩:=d;obtain ⟨d8,d7,d6,d5,d4,d3⟩:=e9;have a:=crf w;refine zE1 Tryz.func93 rfl ?_;refine Sr λ_ e8=>za rfl (zz (e8 (Sr λ_ e7=>zm rfl (zP rfl (zf rfl ?_)))));refine WL.ev (Ev.fZ (cs:=[.int .i64 (S.s.na:Int),.int .i64 (S.s.up:Int),.int .i64 (S.s.dn:Int),.int .i64 (S.s.mi:Int),.int .i64 (S.s.pl:Int),.int .i64 (S.s.al:Int)]) rfl rfl h rfl rfl) rfl ?_;refine WL.call hasF107 rfl rfl (awq S.s _ ⟨d8,d7,d6,d5,d4,d3⟩) λv w1 C=>?_;obtain ⟨rfl,B⟩:=C;rw[show ((S.s.al:Int)-S.s.na-S.s.up-S.s.dn)=S.fin from rfl];have a:=a.ta B;have h:=h.q8 B;have f:=f.q8 B;have g:=g.q8 B;refine za rfl (zz (e7 (Sr λ_ e6=>zm rfl (zP rfl (zf rfl (zl h rfl rfl ?_))))));refine WL.call hasF161 rfl rfl (bzj S.lo _ o) λv w2 C=>?_;obtain ⟨rfl,rfl⟩:=C;refine za rfl (zz (e6 (Sr λ_ e5=>zm rfl (zP rfl (zf rfl (zl h rfl rfl ?_))))));refine WL.call hasF161 rfl rfl (bzj S.hi _ p) λv w3 C=>?_;obtain ⟨rfl,rfl⟩:=C;refine za rfl (zz (e5 (zc λ_ e4=>?_)));refine CW.azx 41 (decide (isNaN S.lo=true\/isNaN S.hi=true\/key S.hi<key S.lo)) ?_ ?_
  · intro n;refine CW.cQ 18 rfl dZ λf4 q d e1=>?_;have n:=n.ta e1;have h:=h.q8 e1;have I:=h;refine wh 0 rfl d (eM rfl) (wh 1 rfl d (λ_ _=>Ev.eql rfl rfl) ?_)
    by_cases i:isNaN S.lo=true
    · rw[decide_eq_true (show (k8 S.lo:Int)=5 by have:=(aej o).1 i;omega)];refine wh 2 rfl d (eM rfl) (wp 3 rfl rfl rfl rfl rfl d (wp 4 rfl rfl rfl rfl rfl d (wh 5 rfl d (λ_ _=>Ev.aeq rfl rfl rfl) (wh 6 rfl d (eM rfl) (wp 7 rfl rfl rfl rfl rfl d (wp 8 rfl rfl rfl rfl rfl d (wp 9 rfl rfl rfl rfl rfl d (wp 10 rfl rfl rfl rfl rfl d (wp 11 rfl rfl rfl rfl rfl d (wp 12 rfl rfl rfl rfl rfl d (wp 13 rfl rfl rfl rfl rfl d (wp 14 rfl rfl rfl rfl rfl d ?_))))))))))));refine WH.a0x 15 rfl oR rfl rfl rfl rfl d rfl ?_;refine wp 16 rfl rfl rfl rfl rfl d (wh 17 rfl d (λ_ _=>Ev.aeq rfl rfl rfl) ?_);refine WH.done oR (q _ _ _ ?_);refine ⟨rfl,n,j0.g8 rfl ?_ ?_⟩
      · first|(refine (decide_eq_true ?_).symm;exact .inl i)|(refine (decide_eq_true ?_).symm;exact .inr (.inl j))|(refine decide_eq_decide.2 ?_;rw[afx];exact ⟨λz=>.inr (.inr z),λz=>(z.resolve_left i).resolve_left j⟩)
      exact SMg
    rw[decide_eq_false (show ¬(k8 S.lo:Int)=5 by have : ¬k8 S.lo=5:=λz=>i ((aej o).2 z);omega)];refine wh 2 rfl d (eM rfl) (wg 3 rfl rfl rfl rfl rfl d (eM rfl) (wg 4 rfl rfl rfl rfl rfl d (λ_ _=>Ev.eql rfl rfl) ?_))
    by_cases j:isNaN S.hi=true
    · rw[decide_eq_true (show (k8 S.hi:Int)=5 by have:=(aej p).1 j;omega)];refine wh 5 rfl d (λ_ _=>Ev.aox rfl rfl rfl) (wh 6 rfl d (eM rfl) (wp 7 rfl rfl rfl rfl rfl d (wp 8 rfl rfl rfl rfl rfl d (wp 9 rfl rfl rfl rfl rfl d (wp 10 rfl rfl rfl rfl rfl d (wp 11 rfl rfl rfl rfl rfl d (wp 12 rfl rfl rfl rfl rfl d (wp 13 rfl rfl rfl rfl rfl d (wp 14 rfl rfl rfl rfl rfl d ?_)))))))));refine WH.a0x 15 rfl oR rfl rfl rfl rfl d rfl ?_;refine wp 16 rfl rfl rfl rfl rfl d (wh 17 rfl d (λ_ _=>Ev.aeq rfl rfl rfl) ?_);refine WH.done oR (q _ _ _ ?_);refine ⟨rfl,n,j0.g8 rfl ?_ ?_⟩
      · first|(refine (decide_eq_true ?_).symm;exact .inl i)|(refine (decide_eq_true ?_).symm;exact .inr (.inl j))|(refine decide_eq_decide.2 ?_;rw[afx];exact ⟨λz=>.inr (.inr z),λz=>(z.resolve_left i).resolve_left j⟩)
      exact SMg
    rw[decide_eq_false (show ¬(k8 S.hi:Int)=5 by have : ¬k8 S.hi=5:=λz=>j ((aej p).2 z);omega)];refine wh 5 rfl d (λ_ _=>Ev.aox rfl rfl rfl) (wh 6 rfl d (eM rfl) (wg 7 rfl rfl rfl rfl rfl d (eM rfl) (wg 8 rfl rfl rfl rfl rfl d (eP rfl) (wg 9 rfl rfl rfl rfl rfl d (eF rfl) (wg 10 rfl rfl rfl rfl rfl d (λ_ J=>Ev.load rfl rfl ((I.q8 J).at_ rfl)) (wg 11 rfl rfl rfl rfl rfl d (eM rfl) (wg 12 rfl rfl rfl rfl rfl d (eP rfl) (wg 13 rfl rfl rfl rfl rfl d (eF rfl) (wg 14 rfl rfl rfl rfl rfl d (λ_ J=>Ev.load rfl rfl ((I.q8 J).at_ rfl)) ?_)))))))));refine WH.rX 15 rfl oR rfl rfl rfl rfl hasF99 rfl rfl (lQ S.lo S.hi o p _) λv w4 C=>?_;obtain ⟨rfl,rfl⟩:=C;rw[atq (Bool.eq_false_iff.2 i),atq (Bool.eq_false_iff.2 j)];refine ⟨d,?_⟩;refine wg 16 rfl rfl rfl rfl rfl d (λ_ _=>Ev.gtr rfl rfl) (wh 17 rfl d (λ_ _=>Ev.aox rfl rfl rfl) ?_);refine WH.done oR (q _ _ _ ?_);refine ⟨rfl,n,j0.g8 rfl ?_ ?_⟩
    · first|(refine (decide_eq_true ?_).symm;exact .inl i)|(refine (decide_eq_true ?_).symm;exact .inr (.inl j))|(refine decide_eq_decide.2 ?_;rw[afx];exact ⟨λz=>.inr (.inr z),λz=>(z.resolve_left i).resolve_left j⟩)
    exact SMg
  intro wM n;have a:=a.ta n;have h:=h.q8 n;have f:=f.q8 n;have g:=g.q8 n;refine zy rfl ?_ ?_<;>intro a0<;>try simp only[qs] at a0
  · have hn:isNaN S.lo=true\/isNaN S.hi=true\/key S.hi<key S.lo:=a0
    refine Sr λ_ d1=>za rfl (zz (d1 ?_));refine zr (zr1 rfl rfl ?_);refine ⟨congrArg Value.bool (decide_eq_false λz=>z.1 hn).symm,a⟩
  have hn : ¬(isNaN S.lo=true\/isNaN S.hi=true\/key S.hi<key S.lo):=a0;have i:k8 S.lo≠5:=λz=>hn (.inl ((aej o).2 z));have j:k8 S.hi≠5:=λz=>hn (.inr (.inl ((aej p).2 z)));have k:=end_lo o d9 d2 i;have l:=end_hi p d9 d2 j;refine zkk (e4 (Sr λ_ d0=>zm rfl (zQ rfl rfl (za rfl (zz (d0 (Sr λ_ c9=>zm rfl (zQ rfl rfl (za rfl (zz (c9 (Sr λ_ c8=>zm rfl (zP rfl (zf rfl ?_))))))))))))));refine WL.ev (Ev.fZ (cs:=[.int .i64 (S.s.na:Int),.int .i64 (S.s.up:Int),.int .i64 (S.s.dn:Int),.int .i64 (S.s.mi:Int),.int .i64 (S.s.pl:Int),.int .i64 (S.s.al:Int)]) rfl rfl h rfl rfl) rfl ?_;refine WL.call hasF156 rfl rfl (caq S.s _ ⟨d8,d7,d6,d5,d4,d3⟩) λv w5 C=>?_;obtain ⟨rfl,B⟩:=C;rw[show ((S.s.al:Int)-S.s.na-S.s.up-S.s.dn-S.s.mi-S.s.pl)=S.pln from rfl];have a:=a.ta B;have h:=h.q8 B;have f:=f.q8 B;have g:=g.q8 B;refine zq rfl rfl (za rfl (zz (c8 ?_)));refine CW.anj (λD s' w'=>D=[]/\BK w' b 148 [.int .i64 (S.s.na:Int),.int .i64 (S.s.up:Int),.int .i64 (S.s.dn:Int),.int .i64 (S.s.mi:Int),.int .i64 (S.s.pl:Int),.int .i64 (S.s.al:Int),.bool S.V.neg,rv,.int .i64 S.V.e,.bool S.Q.neg,rq,.int .i64 S.Q.e,.float .f64 S.lo,.float .f64 S.hi]/\NU w' rv (wd S.V.m)/\NU w' rq (wd S.Q.m)/\Chg [] w w'/\j0 [(6,.bool (decide (arx S.lo (-1) S.s.dn S.s.up S.s.mi S))),(0,.pointer (some ⟨b,0,none⟩)),(3,.int .i64 S.fin),(4,.int .i64 (k8 S.lo:Int)),(5,.int .i64 (k8 S.hi:Int)),(8,.bool (decide (S.pln=0))),(7,.bool (decide ((k8 S.hi:Int)<=2)))] s') ?_ ?_
  · refine CW.block (Sr λ_ c7=>zm rfl (zP rfl (zf rfl (zf rfl (zl h rfl rfl (zG rfl rfl (za rfl (zz (c7 ?_)))))))));refine zy rfl ?_ ?_<;>intro Z<;>try simp only[qs] at Z
    · have a1:0<S.s.dn:=by have:=Z;omega
      refine zS λ_ b8=>zm rfl (zq rfl rfl (za rfl (zz (b8 ?_))));refine ⟨rfl,h,f,g,a,j0.g8 rfl ?_ ?_⟩
      · refine decide_eq_decide.2 ?_
        rw[k]
        first|(rw[if_pos oA];omega)|(rw[if_neg oA,if_pos oA];omega)|(rw[if_neg oA,if_neg oA,if_pos oO];omega)|(rw[if_neg oA,if_neg oA,if_neg oO,if_pos oO];omega)|(rw[if_neg oA,if_neg oA,if_neg oO,if_neg oO];omega)
      (repeat (first|exact j0.nil|refine j0.cons rfl ?_))
    have a1 : ¬0<S.s.dn:=by have:=Z;omega
    refine Sr λ_ c6=>zm rfl (zq rfl rfl (za rfl (zz (c6 ?_))));refine zy rfl ?_ ?_<;>intro Y<;>try simp only[qs] at Y
    · have a2:S.fin=0:=Y
      refine zS λ_ b7=>zm rfl (zq rfl rfl (za rfl (zz (b7 ?_))));refine ⟨rfl,h,f,g,a,j0.g8 rfl ?_ ?_⟩
      · refine decide_eq_decide.2 ?_
        rw[k]
        first|(rw[if_pos oA];omega)|(rw[if_neg oA,if_pos oA];omega)|(rw[if_neg oA,if_neg oA,if_pos oO];omega)|(rw[if_neg oA,if_neg oA,if_neg oO,if_pos oO];omega)|(rw[if_neg oA,if_neg oA,if_neg oO,if_neg oO];omega)
      (repeat (first|exact j0.nil|refine j0.cons rfl ?_))
    have a2 : ¬S.fin=0:=Y;refine Sr λ_ H=>zm rfl (zm rfl ?_);refine zb ?_ ?_<;>intro M<;>try simp only[qs] at M
    · have a3:S.pln=0:=by simpa using M
      refine zw rfl (zm rfl (zw rfl (zP rfl (zw rfl (zf rfl (zw rfl (zf rfl (zw rfl (zl h rfl rfl (zw rfl (zG rfl rfl (zt rfl rfl (za rfl (zz (H ?_)))))))))))))));refine zy rfl ?_ ?_<;>intro X<;>try simp only[qs] at X
      · have a4:0<S.s.mi:=by have:=X;omega
        refine zS λ_ b6=>zm rfl (zq rfl rfl (za rfl (zz (b6 ?_))));refine ⟨rfl,h,f,g,a,j0.g8 rfl ?_ ?_⟩
        · refine decide_eq_decide.2 ?_
          rw[k]
          first|(rw[if_pos oA];omega)|(rw[if_neg oA,if_pos oA];omega)|(rw[if_neg oA,if_neg oA,if_pos oO];omega)|(rw[if_neg oA,if_neg oA,if_neg oO,if_pos oO];omega)|(rw[if_neg oA,if_neg oA,if_neg oO,if_neg oO];omega)
        (repeat (first|exact j0.nil|refine j0.cons rfl ?_))
      have a4:=X;refine Sr λ_ c5=>zm rfl (za rfl (zz (c5 ?_)));refine zy rfl ?_ ?_<;>intro U<;>try simp only[qs] at U
      · have a5:S.pln=0:=by simpa using U
        refine zS λ_ b5=>zm rfl (zq rfl rfl (za rfl (zz (b5 ?_))));refine ⟨rfl,h,f,g,a,j0.g8 rfl ?_ ?_⟩
        · refine decide_eq_decide.2 ?_
          rw[k]
          first|(rw[if_pos oA];omega)|(rw[if_neg oA,if_pos oA];omega)|(rw[if_neg oA,if_neg oA,if_pos oO];omega)|(rw[if_neg oA,if_neg oA,if_neg oO,if_pos oO];omega)|(rw[if_neg oA,if_neg oA,if_neg oO,if_neg oO];omega)
        (repeat (first|exact j0.nil|refine j0.cons rfl ?_))
      have a5 : ¬S.pln=0:=by simpa using U
      refine zkk ?_;refine ⟨rfl,h,f,g,a,j0.g8 rfl ?_ ?_⟩
      · refine decide_eq_decide.2 ?_
        rw[k]
        first|(rw[if_pos oA];omega)|(rw[if_neg oA,if_pos oA];omega)|(rw[if_neg oA,if_neg oA,if_pos oO];omega)|(rw[if_neg oA,if_neg oA,if_neg oO,if_pos oO];omega)|(rw[if_neg oA,if_neg oA,if_neg oO,if_neg oO];omega)
      (repeat (first|exact j0.nil|refine j0.cons rfl ?_))
    have a3 : ¬S.pln=0:=by simpa using M
    refine zv rfl (zv rfl (zv rfl (zv rfl (zv rfl (zv rfl (ze rfl rfl (za rfl (zz (H ?_)))))))));refine CW.mQ rfl ?_;refine Sr λ_ c4=>zm rfl (za rfl (zz (c4 ?_)));refine zy rfl ?_ ?_<;>intro T<;>try simp only[qs] at T
    · have a5:S.pln=0:=by simpa using T
      refine zS λ_ b4=>zm rfl (zq rfl rfl (za rfl (zz (b4 ?_))));refine ⟨rfl,h,f,g,a,j0.g8 rfl ?_ ?_⟩
      · refine decide_eq_decide.2 ?_
        rw[k]
        first|(rw[if_pos oA];omega)|(rw[if_neg oA,if_pos oA];omega)|(rw[if_neg oA,if_neg oA,if_pos oO];omega)|(rw[if_neg oA,if_neg oA,if_neg oO,if_pos oO];omega)|(rw[if_neg oA,if_neg oA,if_neg oO,if_neg oO];omega)
      (repeat (first|exact j0.nil|refine j0.cons rfl ?_))
    have a5 : ¬S.pln=0:=by simpa using T
    refine zkk ?_;refine ⟨rfl,h,f,g,a,j0.g8 rfl ?_ ?_⟩
    · refine decide_eq_decide.2 ?_
      rw[k]
      first|(rw[if_pos oA];omega)|(rw[if_neg oA,if_pos oA];omega)|(rw[if_neg oA,if_neg oA,if_pos oO];omega)|(rw[if_neg oA,if_neg oA,if_neg oO,if_pos oO];omega)|(rw[if_neg oA,if_neg oA,if_neg oO,if_neg oO];omega)
    (repeat (first|exact j0.nil|refine j0.cons rfl ?_))
  rintro _ s' wJ ⟨rfl,h,f,g,a,r⟩;refine CW.sub r ?_;refine CW.anj (λD s' w'=>D=[]/\BK w' b 148 [.int .i64 (S.s.na:Int),.int .i64 (S.s.up:Int),.int .i64 (S.s.dn:Int),.int .i64 (S.s.mi:Int),.int .i64 (S.s.pl:Int),.int .i64 (S.s.al:Int),.bool S.V.neg,rv,.int .i64 S.V.e,.bool S.Q.neg,rq,.int .i64 S.Q.e,.float .f64 S.lo,.float .f64 S.hi]/\NU w' rv (wd S.V.m)/\NU w' rq (wd S.Q.m)/\Chg [] w w'/\j0 [(7,.bool (decide (arx S.hi 1 S.s.up S.s.dn S.s.pl S))),(0,.pointer (some ⟨b,0,none⟩)),(3,.int .i64 S.fin),(4,.int .i64 (k8 S.lo:Int)),(5,.int .i64 (k8 S.hi:Int)),(8,.bool (decide (S.pln=0))),(6,.bool (decide (arx S.lo (-1) S.s.dn S.s.up S.s.mi S)))] s') ?_ ?_
  · refine CW.block (Sr λ_ c3=>zm rfl (zP rfl (zf rfl (zf rfl (zl h rfl rfl (zG rfl rfl (za rfl (zz (c3 ?_)))))))));refine zy rfl ?_ ?_<;>intro R<;>try simp only[qs] at R
    · have a1:0<S.s.up:=by have:=R;omega
      refine zS λ_ b3=>zm rfl (zq rfl rfl (za rfl (zz (b3 ?_))));refine ⟨rfl,h,f,g,a,j0.g8 rfl ?_ ?_⟩
      · refine decide_eq_decide.2 ?_
        rw[l]
        first|(rw[if_pos oA];omega)|(rw[if_neg oA,if_pos oA];omega)|(rw[if_neg oA,if_neg oA,if_pos oO];omega)|(rw[if_neg oA,if_neg oA,if_neg oO,if_pos oO];omega)|(rw[if_neg oA,if_neg oA,if_neg oO,if_neg oO];omega)
      (repeat (first|exact j0.nil|refine j0.cons rfl ?_))
    have a1 : ¬0<S.s.up:=by have:=R;omega
    refine Sr λ_ c2=>zm rfl (zq rfl rfl (za rfl (zz (c2 ?_))));refine zy rfl ?_ ?_<;>intro O<;>try simp only[qs] at O
    · have a2:S.fin=0:=O
      refine zS λ_ b2=>zm rfl (zq rfl rfl (za rfl (zz (b2 ?_))));refine ⟨rfl,h,f,g,a,j0.g8 rfl ?_ ?_⟩
      · refine decide_eq_decide.2 ?_
        rw[l]
        first|(rw[if_pos oA];omega)|(rw[if_neg oA,if_pos oA];omega)|(rw[if_neg oA,if_neg oA,if_pos oO];omega)|(rw[if_neg oA,if_neg oA,if_neg oO,if_pos oO];omega)|(rw[if_neg oA,if_neg oA,if_neg oO,if_neg oO];omega)
      (repeat (first|exact j0.nil|refine j0.cons rfl ?_))
    have a2 : ¬S.fin=0:=O;refine Sr λ_ G=>zm rfl (zm rfl ?_);refine zb ?_ ?_<;>intro t<;>try simp only[qs] at t
    · have a3:S.pln=0:=by simpa using t
      refine zw rfl (zm rfl (zw rfl (zP rfl (zw rfl (zf rfl (zw rfl (zf rfl (zw rfl (zl h rfl rfl (zw rfl (zG rfl rfl (zt rfl rfl (za rfl (zz (G ?_)))))))))))))));refine zy rfl ?_ ?_<;>intro A<;>try simp only[qs] at A
      · have a4:0<S.s.pl:=by have:=A;omega
        refine zS λ_ b1=>zm rfl (zq rfl rfl (za rfl (zz (b1 ?_))));refine ⟨rfl,h,f,g,a,j0.g8 rfl ?_ ?_⟩
        · refine decide_eq_decide.2 ?_
          rw[l]
          first|(rw[if_pos oA];omega)|(rw[if_neg oA,if_pos oA];omega)|(rw[if_neg oA,if_neg oA,if_pos oO];omega)|(rw[if_neg oA,if_neg oA,if_neg oO,if_pos oO];omega)|(rw[if_neg oA,if_neg oA,if_neg oO,if_neg oO];omega)
        (repeat (first|exact j0.nil|refine j0.cons rfl ?_))
      have a4:=A;refine Sr λ_ c1=>zm rfl (za rfl (zz (c1 ?_)));refine zy rfl ?_ ?_<;>intro y<;>try simp only[qs] at y
      · have a5:S.pln=0:=by simpa using y
        refine zS λ_ b0=>zm rfl (zq rfl rfl (za rfl (zz (b0 ?_))));refine ⟨rfl,h,f,g,a,j0.g8 rfl ?_ ?_⟩
        · refine decide_eq_decide.2 ?_
          rw[l]
          first|(rw[if_pos oA];omega)|(rw[if_neg oA,if_pos oA];omega)|(rw[if_neg oA,if_neg oA,if_pos oO];omega)|(rw[if_neg oA,if_neg oA,if_neg oO,if_pos oO];omega)|(rw[if_neg oA,if_neg oA,if_neg oO,if_neg oO];omega)
        (repeat (first|exact j0.nil|refine j0.cons rfl ?_))
      have a5 : ¬S.pln=0:=by simpa using y
      refine zkk ?_;refine ⟨rfl,h,f,g,a,j0.g8 rfl ?_ ?_⟩
      · refine decide_eq_decide.2 ?_
        rw[l]
        first|(rw[if_pos oA];omega)|(rw[if_neg oA,if_pos oA];omega)|(rw[if_neg oA,if_neg oA,if_pos oO];omega)|(rw[if_neg oA,if_neg oA,if_neg oO,if_pos oO];omega)|(rw[if_neg oA,if_neg oA,if_neg oO,if_neg oO];omega)
      (repeat (first|exact j0.nil|refine j0.cons rfl ?_))
    have a3 : ¬S.pln=0:=by simpa using t
    refine zv rfl (zv rfl (zv rfl (zv rfl (zv rfl (zv rfl (ze rfl rfl (za rfl (zz (G ?_)))))))));refine CW.mQ rfl ?_;refine Sr λ_ b9=>zm rfl (za rfl (zz (b9 ?_)));refine zy rfl ?_ ?_<;>intro x<;>try simp only[qs] at x
    · have a5:S.pln=0:=by simpa using x
      refine zS λ_ a9=>zm rfl (zq rfl rfl (za rfl (zz (a9 ?_))));refine ⟨rfl,h,f,g,a,j0.g8 rfl ?_ ?_⟩
      · refine decide_eq_decide.2 ?_
        rw[l]
        first|(rw[if_pos oA];omega)|(rw[if_neg oA,if_pos oA];omega)|(rw[if_neg oA,if_neg oA,if_pos oO];omega)|(rw[if_neg oA,if_neg oA,if_neg oO,if_pos oO];omega)|(rw[if_neg oA,if_neg oA,if_neg oO,if_neg oO];omega)
      (repeat (first|exact j0.nil|refine j0.cons rfl ?_))
    have a5 : ¬S.pln=0:=by simpa using x
    refine zkk ?_;refine ⟨rfl,h,f,g,a,j0.g8 rfl ?_ ?_⟩
    · refine decide_eq_decide.2 ?_
      rw[l]
      first|(rw[if_pos oA];omega)|(rw[if_neg oA,if_pos oA];omega)|(rw[if_neg oA,if_neg oA,if_pos oO];omega)|(rw[if_neg oA,if_neg oA,if_neg oO,if_pos oO];omega)|(rw[if_neg oA,if_neg oA,if_neg oO,if_neg oO];omega)
    (repeat (first|exact j0.nil|refine j0.cons rfl ?_))
  rintro _ s' wJ ⟨rfl,h,f,g,a,r⟩;refine CW.sub r ?_;refine Sr λ_ F=>zm rfl (zm rfl ?_);refine zb ?_ ?_<;>intro e0<;>try simp only[qs] at e0
  · refine zw rfl (zm rfl (zt rfl rfl (za rfl (zz (F ?_)))));refine zr (zr1 rfl rfl ?_);refine ⟨congrArg Value.bool ?_,a⟩;have e:vX S↔(arx S.lo (-1) S.s.dn S.s.up S.s.mi S/\arx S.hi 1 S.s.up S.s.dn S.s.pl S):=⟨λz=>z.2,λz=>⟨hn,z⟩⟩
    first|exact decide_eq_decide.2 (by rw[e];simp_all)|exact (decide_eq_false (by rw[e];simp_all)).symm|(rw[decide_eq_decide.2 e];simp_all;done)
  refine zv rfl (ze rfl rfl (za rfl (zz (F ?_))));refine zr (zr1 rfl rfl ?_);refine ⟨congrArg Value.bool ?_,a⟩;have e:vX S↔(arx S.lo (-1) S.s.dn S.s.up S.s.mi S/\arx S.hi 1 S.s.up S.s.dn S.s.pl S):=⟨λz=>z.2,λz=>⟨hn,z⟩⟩
  first|exact decide_eq_decide.2 (by rw[e];simp_all)|exact (decide_eq_false (by rw[e];simp_all)).symm|(rw[decide_eq_decide.2 e];simp_all;done)
set_option exponentiation.threshold 9000
theorem sq_nn(a:Int):0<=a*a:=by
  rcases Int.le_total 0 a with h|h
  · exact Int.mul_nonneg h h
  · rw[<- Int.neg_mul_neg];exact Int.mul_nonneg oO oO
theorem amgm{A B k t j u:Int}(b:0<=k)(a:0<=t)(f:0<=j)(d:0<=u)(i:A*A<=k*t)(g:B*B<=j*u):2*(A*B)<=k*u+j*t:=by
  refine Int.not_lt.1 λh=>?_
  have q:0<=k*u:=Int.mul_nonneg b d
  have p:0<=j*t:=Int.mul_nonneg f a
  generalize hX:k*u=x at *
  generalize hY:j*t=y at *
  have e:0<=x+y:=by omega
  have z:(x+y)*(x+y)<=(x+y)*(2*(A*B)):=Int.mul_le_mul_of_nonneg_left oO e
  have w:(x+y)*(2*(A*B))<(2*(A*B))*(2*(A*B)):=Int.mul_lt_mul_of_pos_right h oO
  have m:(A*A)*(B*B)<=(k*t)*(j*u):=Int.mul_le_mul i g (sq_nn B) (Int.mul_nonneg b a)
  have v:(2*(A*B))*(2*(A*B))=4*((A*A)*(B*B)):=by
    have:(A*A)*(B*B)=(A*B)*(A*B):=by ac_rfl
    rw[this,Int.mul_assoc,Int.mul_left_comm (A*B) 2,<- Int.mul_assoc 2 2];rfl
  have l:(k*t)*(j*u)=x*y:=by rw[<- hX,<- hY];ac_rfl
  have s:0<=(x-y)*(x-y):=sq_nn _
  have r:(x+y)*(x+y)=(x-y)*(x-y)+4*(x*y):=by
    have o:(x+y)*(x+y)=x*x+y*y+2*(x*y):=by rw[Int.add_mul,Int.mul_add,Int.mul_add,Int.mul_comm y x];omega
    have n:(x-y)*(x-y)=x*x+y*y-2*(x*y):=by rw[Int.sub_mul,Int.mul_sub,Int.mul_sub,Int.mul_comm y x];omega
    rw[o,n];omega
  rw[l] at m
  omega
structure Nm(k:Nat)(A T:Int):Prop where
  dv : ∀ a,a=1074->∃ z:Int,A=z*((2^a:Nat):Int)
  t0:0<=T
  z:k=0->T=0/\A=0
  p:0<k->0<T
  lt:0<k->T<(k:Int)*((2^4196:Nat):Int)
  cs:A*A<=(k:Int)*(T*((2^2148:Nat):Int))
theorem Nm.zero:Nm 0 0 0:=⟨λa _=>⟨0,by simp⟩,Int.le_refl _,λ_=>⟨rfl,rfl⟩,λh=>absurd h oD,λh=>absurd h oD,by simp⟩
theorem Nm.add{k j:Nat}{A B T U:Int}(h:Nm k A T)(g:Nm j B U):Nm (k+j) (A+B) (T+U):=by
  have l:(0:Int)<=((2^2148:Nat):Int):=Int.natCast_nonneg _
  have F:(0:Int)<((2^4196:Nat):Int):=by have:=Nat.two_pow_pos 4196;omega
  refine ⟨λa i=>?_,by have:=h.t0;have:=g.t0;omega,λe=>?_,λe=>?_,λe=>?_,?_⟩
  · obtain ⟨y,r⟩:=h.dv a i
    obtain ⟨z,o⟩:=g.dv a i
    exact ⟨y+z,by rw[r,o,Int.add_mul]⟩
  · have H:=h.z oO;have G:=g.z oO;omega
  · have:=h.t0;have:=g.t0
    by_cases q:0<k
    · have:=h.p q;omega
    · have:=g.p oO;omega
  · have n:T<=(k:Int)*((2^4196:Nat):Int):=by
      by_cases q:0<k
      · have:=h.lt q;omega
      · have b:k=0:=by omega
        rw[(h.z b).1,b];simp
    have m:U<=(j:Int)*((2^4196:Nat):Int):=by
      by_cases q:0<j
      · have:=g.lt q;omega
      · have b:j=0:=by omega
        rw[(g.z b).1,b];simp
    rw[Int.natCast_add,Int.add_mul]
    by_cases q:0<k
    · have:=h.lt q;omega
    · have:=g.lt oO;omega
  · have n:=h.cs
    have m:=g.cs
    have v:=h.t0
    have s:=g.t0
    have f:0<=T*((2^2148:Nat):Int):=Int.mul_nonneg v l
    have d:0<=U*((2^2148:Nat):Int):=Int.mul_nonneg s l
    have w:(0:Int)<=(k:Int):=Int.natCast_nonneg _
    have x:(0:Int)<=(j:Int):=Int.natCast_nonneg _
    have key:=amgm w f x d n m
    rw[Int.natCast_add,Int.add_mul T U]
    generalize T*((2^2148:Nat):Int)=t at *
    generalize U*((2^2148:Nat):Int)=u at *
    have D:(A+B)*(A+B)=A*A+B*B+2*(A*B):=by rw[Int.add_mul,Int.mul_add,Int.mul_add,Int.mul_comm B A];omega
    have C:((k:Int)+j)*(t+u)=k*t+j*u+(k*u+j*t):=by rw[Int.add_mul,Int.mul_add,Int.mul_add];omega
    rw[D,C];omega
theorem Nm.of{L:List Nat}(a : ∀ x∈L,x<18446744073709551616):Nm (acx 0 L) (ayj L) (sqS L):=by
  obtain ⟨g,f,e,d,b⟩:=sq_bounds a
  exact ⟨sumI_dvd a,g,λh=>e h,f,d,b⟩
theorem Nm.inT{k:Nat}{A T:Int}(h:Nm k A T)(f:k<=1099511627776):InB T:=by
  have a:=pow4236 4196 rfl
  have d:((16384*BB:Nat):Int)=4398046511104*((2^4196:Nat):Int):=by
    have e:(16384*BB:Nat)=4398046511104*2^4196:=by rw[b4x]<;>exact a
    rw[e,Int.natCast_mul]<;>rfl
  have g:(0:Int)<((2^4196:Nat):Int):=by have:=Nat.two_pow_pos 4196;omega
  have j:=h.t0
  unfold InB
  rw[d]
  by_cases q:0<k
  · have b:=h.lt q
    generalize ((2^4196:Nat):Int)=M at *
    have i:M*(k:Int)<=M*1099511627776:=Int.mul_le_mul_of_nonneg_left oO oO
    rw[Int.mul_comm] at b
    omega
  · have:=(h.z oO).1;omega
theorem Nm.inA{k:Nat}{A T:Int}(h:Nm k A T)(e:k<=1099511627776):InB A:=by
  have b:=h.inT e
  unfold InB at b ⊢
  generalize hBd:((16384*BB:Nat):Int)=D at *
  have i:(1099511627776:Int)*((2^2148:Nat):Int)<=D:=by
    rw[<- hBd]
    have m:1099511627776*2^2148<=16384*BB:=by
      rw[b4x,show (1099511627776:Nat)=2^40 from rfl,<- Nat.pow_add]
      exact Nat.pow_le_pow_right oD oD
    have l:((1099511627776*2^2148:Nat):Int)<=((16384*BB:Nat):Int):=Int.ofNat_le.2 m
    rwa [Int.natCast_mul] at l
  have d:=h.t0
  have n:(0:Int)<((2^2148:Nat):Int):=by have:=Nat.two_pow_pos 2148;omega
  have f:=h.cs
  generalize ((2^2148:Nat):Int)=M at *
  have s:(k:Int)*(T*M)<=1099511627776*(T*M):=Int.mul_le_mul_of_nonneg_right oO (Int.mul_nonneg d oO)
  have r:(1099511627776:Int)*(T*M)=T*(1099511627776*M):=by ac_rfl
  have p:T*(1099511627776*M)<=T*D:=Int.mul_le_mul_of_nonneg_left i d
  have a:0<D:=by omega
  have o:T*D<D*D\/T*D=0:=by
    by_cases q:T=0
    · exact .inr (by rw[q,Int.zero_mul])
    · exact .inl (Int.mul_lt_mul_of_pos_right b.2 a)
  have g:0<D*D:=Int.mul_pos a a
  have j:A*A<D*D:=by omega
  constructor
  · refine Int.not_le.1 λq=>?_
    have:D*D<=(-A)*(-A):=Int.mul_le_mul oO oO oO oO
    rw[Int.neg_mul_neg] at this;omega
  · refine Int.not_le.1 λq=>?_
    have:D*D<=A*A:=Int.mul_le_mul q q oO oO
    omega
theorem Nm.sums{S:Sh}{k:Nat}{A T:Int}(f:Nm k A T)(hn:k<=1099511627776)(U:S.V=fQ A)(X:S.Q=fQ T)(f2:S.pln=(k:Int)):sQ S:=by
  have i1:=f.t0
  have i2:=f.p
  have i3:=f.z
  have i4:=f.lt
  have i5:=f.cs
  have hV:=f.inA hn
  have x:InB A:=hV
  have hQ:=f.inT hn
  unfold sQ
  rw[f2,U,X]
  by_cases h0:((k:Nat):Int)=0
  · rw[if_pos h0]
    obtain ⟨D,C⟩:=i3 oO
    rw[D,C]
    exact ⟨rfl,rfl⟩
  · rw[if_neg h0]
    have v:0<k:=by omega
    have q0:=i2 v
    obtain ⟨b,b1,b2,b3,j,b5,b6⟩:=b5q hQ oO
    have d:(fQ (T)).neg=false:=by rw[b3];exact decide_eq_false oO
    have r:sgD (fQ (T)).neg (fQ (T)).m=1:=by
      unfold sgD
      rw[if_neg (λe=>by rw[e] at j;cases j),d];rfl
    refine ⟨?_,?_,?_⟩
    · rw[r]
      rintro (q|q|⟨q1,q2⟩)
      · omega
      · omega
      · have J:A≠0:=λe=>q1 (by rw[e];rfl)
        have:=sumD_low x J (f.dv)
        omega
    · have hp:=pow4236 4196 rfl
      have hb:((16384*BB:Nat):Int)=4398046511104*((2^4196:Nat):Int):=by
        have h1:(16384*BB:Nat)=4398046511104*2^4196:=by rw[b4x]<;>exact hp
        rw[h1,Int.natCast_mul]<;>rfl
      have ht:=topD_sum 4196 rfl
      have O:=i4 v
      have hM:(0:Int)<((2^4196:Nat):Int):=by have:=Nat.two_pow_pos 4196;omega
      generalize ((2^4196:Nat):Int)=M at *
      have h2:M*((k:Nat):Int)<=M*1099511627776:=Int.mul_le_mul_of_nonneg_left oO oO
      have h3:0<=M*((k:Nat):Int):=Int.mul_nonneg oO oO
      have y:InB M:=by unfold InB;rw[hb];omega
      have g:InB (M*((k:Nat):Int)):=by unfold InB;rw[hb];omega
      rw[ht,d7j,mulD_int y oO oO g,Option.getD_some,cmpY_sum hQ g,if_pos (by rw[Int.mul_comm];exact O)]
      decide
    · obtain ⟨t,F,t2,t3⟩:=cvj (n:=k) oO oO
      have I:=xZ (n:=((k:Nat):Int)) oO
      have i:(cJ ((k:Nat):Int)).m≠0:=λe=>by rw[e,Nat.zero_mul] at F;omega
      have R:=I.odd i
      have H:=Nat.two_pow_pos t
      have u:(cJ ((k:Nat):Int)).m<=k:=by
        conv=>rhs;rw[F]
        exact Nat.le_mul_of_pos_right _ H
      have o:2^t<=k:=by
        conv=>rhs;rw[F]
        exact Nat.le_mul_of_pos_left _ oO
      have a7:t<41:=by
        have Z:k<2^41:=by omega
        exact (Nat.pow_lt_pow_iff_right (by omega:1<2)).1 (Nat.lt_of_le_of_lt o Z)
      have w : ∀ c,c=4300->2^4238<2^c/\k<2^c:=by
        intro c hc
        subst hc
        have Y:k<2^42:=by omega
        exact ⟨Nat.pow_lt_pow_right oO oO,Nat.lt_trans Y (Nat.pow_lt_pow_right oO oO)⟩
      obtain ⟨g1,g2⟩:=w 4300 rfl
      rw[cmq R j (Nat.lt_of_le_of_lt u g2) (Nat.lt_trans b5 g1) oO oO,Option.getD_some,t3,d]
      by_cases hA:A=0
      · rw[hA,d3q]
        have e:(gX Dy.zero Dy.zero).getD Dy.zero=Dy.zero:=by unfold gX;rw[show Dy.zero.m*Dy.zero.m=0 from rfl,kX];split<;>rfl
        rw[e]
        unfold cmpY bqq
        have D:sgD Dy.zero.neg Dy.zero.m=0:=rfl
        have C:sgD (false != false) ((cJ ((k:Nat):Int)).m*(fQ (T)).m)=1:=by
          unfold sgD
          rw[if_neg (Nat.mul_ne_zero i (λe=>by rw[e] at j;cases j))];rfl
        dsimp only
        rw[D,C,if_pos oD]
        decide
      · obtain ⟨a,a1,a2,a3,G,a5,a6⟩:=b5q x hA
        rw[cmq G G (Nat.lt_trans a5 g1) (Nat.lt_trans a5 g1) oO oO,Option.getD_some]
        have l:(fQ (A)).m≠0:=λe=>by rw[e] at G;cases G
        have s:((fQ (A)).neg != (fQ (A)).neg)=false:=by cases (fQ (A)).neg<;>rfl
        unfold cmpY bqq
        dsimp only
        rw[s]
        have D:sgD false ((fQ (A)).m*(fQ (A)).m)=1:=by
          unfold sgD
          rw[if_neg (Nat.mul_ne_zero l l)];rfl
        have C:sgD (false != false) ((cJ ((k:Nat):Int)).m*(fQ (T)).m)=1:=by
          unfold sgD
          rw[if_neg (Nat.mul_ne_zero i (λe=>by rw[e] at j;cases j))];rfl
        rw[D,C,if_neg oD,if_neg oD,if_neg oD,Int.one_mul]
        refine cmpV_le (c:=4296) (A:=a+a) (B:=t+b+2148) oO oO ?_
        -- from the bound on the squares
        have h:(A).natAbs*(A).natAbs<=k*((T).natAbs*2^2148):=by
          have w1:(((A).natAbs*(A).natAbs:Nat):Int)=A*A:=by rw[Int.natCast_mul,Int.natAbs_mul_self']
          have w2:(((T).natAbs:Nat):Int)=T:=by omega
          have w3:((k*((T).natAbs*2^2148):Nat):Int)=(k:Int)*(T*((2^2148:Nat):Int)):=by rw[Int.natCast_mul,Int.natCast_mul,w2]
          have:=i5
          rw[<- w1,<- w3] at this
          exact Int.ofNat_le.1 this
        rw[a1,b1] at h
        generalize hvM:(fQ (A)).m=vm at *
        generalize hqM:(fQ (T)).m=qm at *
        generalize hkM:(cJ ((k:Nat):Int)).m=km at *
        have r1:vm*2^a*(vm*2^a)=vm*vm*2^(a+a):=by rw[Nat.pow_add];ac_rfl
        have r2:=sh2 km qm t b 2148
        rw[r1] at h
        rw[<- r2,<- F]
        exact h
end
section
open Go Sx Wd Fl
set_option exponentiation.threshold 9000
def KLn(k a:Nat)(fin pln:Int)(o:Nat)(kI kF k0 k1:Nat):Prop:=
  (0<a->k=kI)/\(a=0/\fin=0->k=kF)/\(a=0/\fin≠0/\pln=0/\0<o->k=k0)/\(a=0/\fin≠0/\pln=0/\o=0->k=k1)/\(a=0/\fin≠0/\pln≠0->k<=2)
theorem kl_iff{k a:Nat}{fin pln:Int}{o b d k0 e:Nat}: (if 0<a then k=b else if fin=0 then k=d else if pln=0/\0<o then k=k0 else if pln=0 then k=e else k<=2)↔KLn k a fin pln o b d k0 e:=by
  unfold KLn
  by_cases h1:0<a
  · rw[if_pos h1];omega
  rw[if_neg h1]
  by_cases h2:fin=0
  · rw[if_pos h2];omega
  rw[if_neg h2]
  by_cases h3:pln=0/\0<o
  · rw[if_pos h3];omega
  rw[if_neg h3]
  by_cases h4:pln=0
  · rw[if_pos h4];omega
  · rw[if_neg h4];omega
theorem cnx{x:Nat}(b:x<18446744073709551616)(e:k8 x≠5):(k8 x=4->key x = -9218868437227405313)/\(k8 x=3->key x=9218868437227405312)/\(k8 x=1->key x = -1)/\(k8 x=2->key x=0)/\(k8 x=0->-9218868437227405313<key x/\key x<9218868437227405312/\key x≠-1/\key x≠0)/\k8 x<=4:=by
  obtain ⟨f,g,h,j,i⟩:=kd b
  have k:=k_le5 x
  have d:isNaN x=false:=by cases z:isNaN x with|false=>rfl|true=>exact absurd ((aej b).1 z) e
  have a:key x=if 9223372036854775808<=x then -1-((x:Int)-9223372036854775808) else x:=by unfold key;rw[d];rfl
  rw[a]
  split<;>omega
structure Gn(S:Sh):Prop where
  mb:cZ S.s
  lo:S.lo<18446744073709551616
  hi:S.hi<18446744073709551616
  nm : ∃ A T,S.V=fQ A/\S.Q=fQ T/\Nm S.pln.toNat A T
  en:S.some->vX S
theorem Gn.p0{S:Sh}(h:Gn S):0<=S.pln/\S.pln<=1099511627776/\0<=S.fin/\S.fin<=1099511627776/\(S.s.mi:Int)+S.s.pl<=S.fin:=by
  have:=h.mb
  unfold cZ at this
  unfold Sh.pln Sh.fin
  omega
theorem Gn.sums{S:Sh}(h:Gn S):sQ S:=by
  obtain ⟨A,T,d,b,a⟩:=h.nm
  have:=h.p0
  exact Nm.sums a oO d b oO
theorem Gn.wf{S:Sh}(h:Gn S):S.wf:=by
  obtain ⟨A,T,e,d,a⟩:=h.nm
  have:=h.p0
  have b:=h.mb
  unfold cZ at b
  refine ⟨⟨by omega,by omega,by omega,by omega,by omega,by omega⟩,?_,?_,h.lo,h.hi⟩
  · rw[e];exact a2q (a.inA oO)
  · rw[d];exact a2q (a.inT oO)
theorem Gn.ex{S:Sh}(h:Gn S):S.ex:=by
  obtain ⟨A,T,f,e,d⟩:=h.nm
  have:=h.p0
  have b:=ex_of (d.inA oO)
  have a:=ex_of (d.inT oO)
  rw[<- f] at b
  rw[<- e] at a
  exact ⟨b.1,a.1,b.2,a.2⟩
theorem Gn.back{S:Sh}(h:Gn S)(a:S.noE):S.back:=⟨h.wf,h.ex,a,h.p0.2.2.2.2,h.sums,h.en⟩
theorem Gn.dec{S:Sh}(h:Gn S)(a:S.noE):apx (ahx S)=some S:=decS_encS (h.back a)
theorem Gn.num{S:Sh}(h:Gn S):S.num:=λhs=>by
  have:=(h.en hs).1
  simp only[not_or] at this
  exact ⟨by simpa using this.1,by simpa using this.2.1⟩
theorem Gn.of{S:Sh}{L:List Nat}(h:Mk S L)(a:S.lo<18446744073709551616)(b:S.hi<18446744073709551616):Gn S:=by
  obtain ⟨f,d⟩:=h.fin
  have e:=duj L
  refine ⟨?_,a,b,⟨ayj L,sqS L,h.V,h.Q,?_⟩,h.ends⟩
  · unfold cZ;rw[h.s];dsimp only;have:=h.n;omega
  · rw[d,Int.toNat_natCast];exact Nm.of h.w
theorem Gn.zero:Gn Sh.zero:=Gn.of Mk.zero oD oD
theorem Gn.one{x:Nat}(a:x<18446744073709551616):Gn (Sh.one x):=Gn.of (Mk.one a) a a
theorem kl_lo{b a j r q o1 i c1 c2:Nat}{m l g f e d n:Int}
    (p:(b=4->e = -9218868437227405313)/\(b=3->e=9218868437227405312)/\(b=1->e = -1)/\(b=2->e=0)/\(b=0->-9218868437227405313<e/\e<9218868437227405312/\e≠-1/\e≠0)/\b<=4)
    (o:(a=4->d = -9218868437227405313)/\(a=3->d=9218868437227405312)/\(a=1->d = -1)/\(a=2->d=0)/\(a=0->-9218868437227405313<d/\d<9218868437227405312/\d≠-1/\d≠0)/\a<=4)
    (k:(j=b/\n=e/\e<=d)\/(j=a/\n=d/\d<=e)) (x:KLn b r m g o1 4 3 1 2) (w:KLn a q l f i 4 3 1 2)
    (v:0<=g) (u:0<=f) (z:m=g+o1+c1) (y:l=f+i+c2):KLn j (r+q) (m+l) (g+f) (o1+i) 4 3 1 2:=by
  unfold KLn at *
  have t:b=0\/b=1\/b=2\/b=3\/b=4:=by have:=p.2.2.2.2.2;omega
  have s:a=0\/a=1\/a=2\/a=3\/a=4:=by have:=o.2.2.2.2.2;omega
  rcases t with rfl|rfl|rfl|rfl|rfl<;>rcases s with rfl|rfl|rfl|rfl|rfl<;>simp at p o x w<;>rcases k with ⟨rfl,rfl,k⟩|⟨rfl,rfl,k⟩<;>refine ⟨λh=>?_,λh=>?_,λh=>?_,λh=>?_,λh=>?_⟩<;>omega
theorem kl_hi{b a j r q o1 i c1 c2:Nat}{m l g f e d n:Int}
    (p:(b=4->e = -9218868437227405313)/\(b=3->e=9218868437227405312)/\(b=1->e = -1)/\(b=2->e=0)/\(b=0->-9218868437227405313<e/\e<9218868437227405312/\e≠-1/\e≠0)/\b<=4)
    (o:(a=4->d = -9218868437227405313)/\(a=3->d=9218868437227405312)/\(a=1->d = -1)/\(a=2->d=0)/\(a=0->-9218868437227405313<d/\d<9218868437227405312/\d≠-1/\d≠0)/\a<=4)
    (k:(j=b/\n=e/\d<=e)\/(j=a/\n=d/\e<=d)) (x:KLn b r m g o1 3 4 2 1) (w:KLn a q l f i 3 4 2 1)
    (v:0<=g) (u:0<=f) (z:m=g+o1+c1) (y:l=f+i+c2):KLn j (r+q) (m+l) (g+f) (o1+i) 3 4 2 1:=by
  unfold KLn at *
  have t:b=0\/b=1\/b=2\/b=3\/b=4:=by have:=p.2.2.2.2.2;omega
  have s:a=0\/a=1\/a=2\/a=3\/a=4:=by have:=o.2.2.2.2.2;omega
  rcases t with rfl|rfl|rfl|rfl|rfl<;>rcases s with rfl|rfl|rfl|rfl|rfl<;>simp at p o x w<;>rcases k with ⟨rfl,rfl,k⟩|⟨rfl,rfl,k⟩<;>refine ⟨λh=>?_,λh=>?_,λh=>?_,λh=>?_,λh=>?_⟩<;>omega
end
section
open Go Sx Wd Fl
set_option exponentiation.threshold 9000
theorem c9x{S:Sh}(h:S.lo<18446744073709551616)(i:S.hi<18446744073709551616)(g:cZ S.s)(f:S.some):
    vX S↔k8 S.lo≠5/\k8 S.hi≠5/\key S.lo<=key S.hi/\KLn (k8 S.lo) S.s.dn S.fin S.pln S.s.mi 4 3 1 2/\KLn (k8 S.hi) S.s.up S.fin S.pln S.s.pl 3 4 2 1:=by
  unfold vX
  constructor
  · rintro ⟨j,l,k⟩
    simp only[not_or] at j
    have e:k8 S.lo≠5:=λz=>j.1 ((aej h).2 z)
    have d:k8 S.hi≠5:=λz=>j.2.1 ((aej i).2 z)
    exact ⟨e,d,by have:=j.2.2;omega,kl_iff.1 ((end_lo h g f e).1 l),kl_iff.1 ((end_hi i g f d).1 k)⟩
  · rintro ⟨e,d,m,a,b⟩
    refine ⟨?_,(end_lo h g f e).2 (kl_iff.2 a),(end_hi i g f d).2 (kl_iff.2 b)⟩
    simp only[not_or]
    exact ⟨λz=>e ((aej h).1 z),λz=>d ((aej i).1 z),by omega⟩
theorem Gn.merge{S U:Sh}(h:Gn S)(g:Gn U)(hn:S.s.al+U.s.al<=1099511627776):Gn (S.merge U):=by
  obtain ⟨A,T,h1,h2,o⟩:=h.nm
  obtain ⟨B,R,g1,g2,t⟩:=g.nm
  have D:=h.p0
  have G:=g.p0
  have F:=h.mb
  have r:=g.mb
  have m:=F
  have p:=r
  unfold cZ at m p
  have I:(S.merge U).fin=S.fin+U.fin:=by
    show ((S.s.al+U.s.al:Nat):Int)-((S.s.na+U.s.na:Nat):Int)-((S.s.up+U.s.up:Nat):Int)-((S.s.dn+U.s.dn:Nat):Int)=_
    unfold Sh.fin;omega
  have H:(S.merge U).pln=S.pln+U.pln:=by
    have e:(S.merge U).pln=(S.merge U).fin-((S.s.mi+U.s.mi:Nat):Int)-((S.s.pl+U.s.pl:Nat):Int):=rfl
    have e1:S.pln=S.fin-(S.s.mi:Int)-(S.s.pl:Int):=rfl
    have e2:U.pln=U.fin-(U.s.mi:Int)-(U.s.pl:Int):=rfl
    rw[e,I,e1,e2];omega
  have eS:S.fin=S.pln+S.s.mi+S.s.pl:=by unfold Sh.pln;omega
  have eU:U.fin=U.pln+U.s.mi+U.s.pl:=by unfold Sh.pln;omega
  have d:cZ (S.merge U).s:=by
    show S.s.na+U.s.na+(S.s.up+U.s.up)+(S.s.dn+U.s.dn)+(S.s.mi+U.s.mi)+(S.s.pl+U.s.pl)<=S.s.al+U.s.al/\S.s.al+U.s.al<=1099511627776
    omega
  have f:(S.merge U).lo<18446744073709551616:=by
    show (if U.some/\(¬S.some\/key U.lo<key S.lo) then U.lo else S.lo)<_
    split
    · exact g.lo
    · exact h.lo
  have j:(S.merge U).hi<18446744073709551616:=by
    show (if U.some/\(¬S.some\/key S.hi<key U.hi) then U.hi else S.hi)<_
    split
    · exact g.hi
    · exact h.hi
  have n:=o.add t
  have et:(S.merge U).pln.toNat=S.pln.toNat+U.pln.toNat:=by rw[H];omega
  have b8:S.pln<=S.s.al:=by unfold Sh.pln Sh.fin;omega
  have a0:U.pln<=U.s.al:=by unfold Sh.pln Sh.fin;omega
  refine ⟨d,f,j,⟨A+B,T+R,?_,?_,?_⟩,λC=>?_⟩
  · show (yQ S.V U.V).getD Dy.zero=_
    rw[h1,g1,addD_sum (o.inA oO) (t.inA oO) (n.inA oO)];rfl
  · show (yQ S.Q U.Q).getD Dy.zero=_
    rw[h2,g2,addD_sum (o.inT oO) (t.inT oO) (n.inT oO)];rfl
  · rw[et];exact n
  · refine (c9x f j d C).2 ?_
    rw[I,H]
    by_cases hS:S.some
    · obtain ⟨Y,X,a3,O,M⟩:=(c9x h.lo h.hi F hS).1 (h.en hS)
      by_cases a:U.some
      · obtain ⟨x,w,J,v,u⟩:=(c9x g.lo g.hi r a).1 (g.en a)
        have i:(S.merge U).lo=if key U.lo<key S.lo then U.lo else S.lo:=by
          show (if U.some/\(¬S.some\/key U.lo<key S.lo) then U.lo else S.lo)=_
          by_cases q:key U.lo<key S.lo
          · rw[if_pos ⟨a,.inr q⟩,if_pos q]
          · rw[if_neg (λz=>z.2.elim (λy=>y hS) q),if_neg q]
        have k:(S.merge U).hi=if key S.hi<key U.hi then U.hi else S.hi:=by
          show (if U.some/\(¬S.some\/key S.hi<key U.hi) then U.hi else S.hi)=_
          by_cases q:key S.hi<key U.hi
          · rw[if_pos ⟨a,.inr q⟩,if_pos q]
          · rw[if_neg (λz=>z.2.elim (λy=>y hS) q),if_neg q]
        have zl:(k8 (S.merge U).lo=k8 S.lo/\key (S.merge U).lo=key S.lo/\key S.lo<=key U.lo)\/(k8 (S.merge U).lo=k8 U.lo/\key (S.merge U).lo=key U.lo/\key U.lo<=key S.lo):=by
          rw[i];split
          · exact .inr ⟨rfl,rfl,by omega⟩
          · exact .inl ⟨rfl,rfl,by omega⟩
        have l:(k8 (S.merge U).hi=k8 S.hi/\key (S.merge U).hi=key S.hi/\key U.hi<=key S.hi)\/(k8 (S.merge U).hi=k8 U.hi/\key (S.merge U).hi=key U.hi/\key S.hi<=key U.hi):=by
          rw[k];split
          · exact .inr ⟨rfl,rfl,by omega⟩
          · exact .inl ⟨rfl,rfl,by omega⟩
        refine ⟨?_,?_,?_,kl_lo (cnx h.lo Y) (cnx g.lo x) zl O v D.1 G.1 eS eU,kl_hi (c1:=S.s.mi) (c2:=U.s.mi) (cnx h.hi X) (cnx g.hi w) l M u D.1 G.1 oO oO⟩
        · rcases zl with z|z<;>rw[z.1]<;>assumption
        · rcases l with z|z<;>rw[z.1]<;>assumption
        · rcases zl with z|z<;>rcases l with y|y<;>rw[z.2.1,y.2.1]<;>omega
      · have i:(S.merge U).lo=S.lo:=if_neg λz=>a z.1
        have k:(S.merge U).hi=S.hi:=if_neg λz=>a z.1
        have b:U.s.up=0/\U.s.dn=0/\U.s.mi=0/\U.s.pl=0/\U.s.na=U.s.al:=by unfold Sh.some at a;omega
        have Z:U.fin=0:=by unfold Sh.fin;omega
        have up:U.pln=0:=by omega
        rw[i,k,Z,up]
        refine ⟨Y,X,a3,?_,?_⟩
        · show KLn (k8 S.lo) (S.s.dn+U.s.dn) (S.fin+0) (S.pln+0) (S.s.mi+U.s.mi) 4 3 1 2
          rw[b.2.1,b.2.2.1,Int.add_zero,Int.add_zero];exact O
        · show KLn (k8 S.hi) (S.s.up+U.s.up) (S.fin+0) (S.pln+0) (S.s.pl+U.s.pl) 3 4 2 1
          rw[b.1,b.2.2.2.1,Int.add_zero,Int.add_zero];exact M
    · have b:S.s.up=0/\S.s.dn=0/\S.s.mi=0/\S.s.pl=0/\S.s.na=S.s.al:=by unfold Sh.some at hS;omega
      have a:U.some:=by
        have:S.s.na+U.s.na<S.s.al+U.s.al:=C
        unfold Sh.some;omega
      obtain ⟨x,w,J,v,u⟩:=(c9x g.lo g.hi r a).1 (g.en a)
      have i:(S.merge U).lo=U.lo:=if_pos ⟨a,.inl hS⟩
      have k:(S.merge U).hi=U.hi:=if_pos ⟨a,.inl hS⟩
      have sf:S.fin=0:=by unfold Sh.fin;omega
      have sp:S.pln=0:=by omega
      rw[i,k,sf,sp]
      refine ⟨x,w,J,?_,?_⟩
      · show KLn (k8 U.lo) (S.s.dn+U.s.dn) (0+U.fin) (0+U.pln) (S.s.mi+U.s.mi) 4 3 1 2
        rw[b.2.1,b.2.2.1,Nat.zero_add,Nat.zero_add,Int.zero_add,Int.zero_add];exact v
      · show KLn (k8 U.hi) (S.s.up+U.s.up) (0+U.fin) (0+U.pln) (S.s.pl+U.s.pl) 3 4 2 1
        rw[b.1,b.2.2.2.1,Nat.zero_add,Nat.zero_add,Int.zero_add,Int.zero_add];exact u
theorem cuj{S U:Sh}(h:Gn S)(g:Gn U)(a:S.noE):(S.merge U).noE:=λq=>by
  have hm:=h.mb
  have gm:=g.mb
  unfold cZ at hm gm
  have q2 : ¬(S.s.na+U.s.na<S.s.al+U.s.al):=q
  by_cases hU:U.some
  · exact absurd (show S.s.na+U.s.na<S.s.al+U.s.al by unfold Sh.some at hU;omega) q2
  · have el:(S.merge U).lo=S.lo:=if_neg λz=>hU z.1
    have eh:(S.merge U).hi=S.hi:=if_neg λz=>hU z.1
    rw[el,eh]
    exact a (λz=>by unfold Sh.some at *;omega)
end
section
open Go Sx Wd Fl
set_option exponentiation.threshold 9000
structure Dc(d:Dy):Prop where
  ok:d.ok
  len:(wd d.m).length<=160
  e : -4096<=d.e/\d.e<=61439
theorem rdD_dc{a:List Nat}(f:B8 a){p:Nat}{bad:Bool}(h:(rdD a p bad).2.2.2.2=false):Dc ⟨(rdD a p bad).1,val (rdD a p bad).2.1,(rdD a p bad).2.2.1⟩:=by
  obtain ⟨j,i⟩:=dij f h
  have g:(rdD a p bad).2.1.length<=160/\-4096<=(rdD a p bad).2.2.1/\(rdD a p bad).2.2.1<=61439:=by
    clear j i
    unfold rdD at h ⊢
    generalize rdN a p bad 1=R1 at *
    obtain ⟨n,e,l⟩:=R1
    dsimp only at *
    have u:=aix f e l 2
    generalize rdN a e l 2=R2 at *
    obtain ⟨s,m,o⟩:=R2
    dsimp only at *
    generalize rdN a m o 2=R3 at *
    obtain ⟨b,d,k⟩:=R3
    dsimp only at *
    by_cases hq:1<n\/160<b
    · rw[if_pos hq] at h;cases h
    · rw[if_neg hq]
      have t:=a1q a d k b
      generalize rdW a d k b=RW at *
      obtain ⟨r,q,v⟩:=RW
      dsimp only at *
      omega
  exact ⟨i,by show (wd (val (rdD a p bad).2.1)).length<=160;rw[j];exact g.1,g.2⟩
theorem getD_le{l:List Nat}{n i:Nat}(h : ∀ x∈l,x<=n):l.getD i 0<=n:=by
  rw[List.getD_eq_getElem?_getD]
  cases q:l[i]? with
  | none=>exact Nat.zero_le _
  | some y=>exact h y (List.mem_of_getElem? q)
theorem rdE_lt{b:Bool}{a:List Nat}(d:B8 a)(p:Nat)(bad:Bool):(rdE b a p bad).1<18446744073709551616/\(rdE b a p bad).2.1<18446744073709551616:=by
  unfold rdE
  split
  · exact ⟨aix d p bad 8,aix d _ _ 8⟩
  · exact ⟨by show 0<_;omega,by show 0<_;omega⟩
theorem decS_parts{b:List Nat}(f:B8 b){S:Sh}(h:apx b=some S):cZ S.s/\Dc S.V/\Dc S.Q/\S.lo<18446744073709551616/\S.hi<18446744073709551616/\S.noE/\sQ S/\(S.some->vX S):=by
  unfold apx at h
  generalize hK:rdK b 6=K at h
  have k:=rdK_le b 6
  rw[hK] at k
  split at h
  · cases h
  rename_i hn
  unfold d2x at h
  generalize hv:rdD b K.2.1 K.2.2=v at h
  unfold decV at h
  generalize hq:rdD b v.2.2.2.1 v.2.2.2.2=q at h
  generalize he:rdE (decide ((auj K.1).na<(auj K.1).al)) b q.2.2.2.1 q.2.2.2.2=E at h
  have d:=@rdE_lt (decide ((auj K.1).na<(auj K.1).al)) b f q.2.2.2.1 q.2.2.2.2
  rw[he] at d
  have l:E.2.2.2=false->q.2.2.2.2=false:=λz=>bzx he z
  have r:q.2.2.2.2=false->v.2.2.2.2=false:=λz=>rdD_mono hq z
  have o:v.2.2.2.2=false->Dc ⟨v.1,val v.2.1,v.2.2.1⟩:=λz=>by subst hv;exact rdD_dc f z
  have p:q.2.2.2.2=false->Dc ⟨q.1,val q.2.1,q.2.2.1⟩:=λz=>by subst hq;exact rdD_dc f z
  unfold decE at h
  split at h
  · cases h
  rename_i hm
  have a:oQ (auj K.1) v q E.1 E.2.1=S:=Option.some.inj h
  have j:E.2.2.2=false:=by
    cases z:E.2.2.2 with
    | false=>rfl
    | true=>exact absurd (.inl z) hm
  have n:sQ S:=Classical.byContradiction λz=>hm (.inr (.inr (.inl (by rw[a];exact z))))
  have m:S.some->vX S:=λy=>Classical.byContradiction λz=>hm (.inr (.inr (.inr (by rw[a];exact ⟨y,z⟩))))
  have g : ¬((Sh.mk (auj K.1) Dy.zero Dy.zero 0 0).fin<((auj K.1).mi:Int)+(auj K.1).pl):=λz=>hn (.inr z)
  have al:(auj K.1).al<=1099511627776:=getD_le (i:=5) k
  unfold Sh.fin at g
  dsimp only at g
  refine ⟨?_,?_,?_,?_,?_,λy=>?_,n,m⟩
  · rw[<- a];exact ⟨by show (auj K.1).na+(auj K.1).up+(auj K.1).dn+(auj K.1).mi+(auj K.1).pl<=(auj K.1).al;omega,al⟩
  · rw[<- a];exact o (r (l j))
  · rw[<- a];exact p (l j)
  · rw[<- a];exact d.1
  · rw[<- a];exact d.2
  · rw[<- a] at y ⊢
    have e:decide ((auj K.1).na<(auj K.1).al)=false:=decide_eq_false y
    rw[e] at he
    subst he
    exact ⟨rfl,rfl⟩
end
section
open Go Sx Wd Fl
set_option exponentiation.threshold 9000
theorem cmpV_eq{m n a b:Nat}{e f:Int}(h:(a:Int)-b=e-f):bvx m e n f=sgn (m*2^a) (n*2^b):=by rw[<- cmpX_V];exact coj h
theorem cmpY_pos{x y:Dy}(i:x.neg=false)(g:y.neg=false)(f:x.m≠0)(d:y.m≠0){a b:Nat}(h:(a:Int)-b=x.e-y.e):cmpY x y=sgn (x.m*2^a) (y.m*2^b):=by
  unfold cmpY bqq
  have k:sgD x.neg x.m=1:=by unfold sgD;rw[if_neg f,i];rfl
  have j:sgD y.neg y.m=1:=by unfold sgD;rw[if_neg d,g];rfl
  rw[k,j,if_neg oD,if_neg oD,if_neg oD,Int.one_mul]
  exact cmpV_eq h
theorem d7q{x y:Dy}(j:x.m%2=1)(i:y.m%2=1)(h:(wd x.m).length<=4000)(g:(wd y.m).length<=4000)(p : -100000<=x.e/\x.e<=100000)(o : -100000<=y.e/\y.e<=100000):gX x y=some ⟨x.neg != y.neg,x.m*y.m,x.e+y.e⟩:=by
  have b:x.m*y.m%2=1:=by rw[Nat.mul_mod,j,i]
  have l:x.m*y.m≠0:=λe=>by rw[e] at b;cases b
  have d:=cex b
  have f:(wd (x.m*y.m)).length<=8192:=wlenB λc n=>by
    obtain ⟨q,k⟩ : ∃ q,q=4000:=⟨_,rfl⟩
    rw[<- k] at h g
    have a:x.m*y.m<2^(32*q)*2^(32*q):=Nat.mul_lt_mul'' (aX.1 h) (aX.1 g)
    rw[<- Nat.pow_add] at a
    exact Nat.lt_of_lt_of_le a (Nat.pow_le_pow_right oO oO)
  unfold gX
  rw[if_neg oO,sJ l (by rw[d];rw[Nat.pow_zero,Nat.div_one];omega),d,Nat.pow_zero,Nat.div_one]
  simp
theorem d4x{d:Dy}(h:d.ok){N:Int}{a:Nat}(i:N.natAbs=d.m*2^a)(g:N≠0->d.neg=decide (N<0))(j:d.e = -2148+(a:Int))(b:InB N):d=fQ N:=by
  have f:=alx b g
  rw[i,acq (e:=d.e) oO,nQ h] at f
  exact Option.some.inj f
theorem Nm.from{S:Sh}{k:Nat}(p:Dc S.V)(F:Dc S.Q)(f2:S.pln=(k:Int))(hn:k<=1099511627776)(j:sQ S): ∃ A T,S.V=fQ A/\S.Q=fQ T/\Nm k A T:=by
  unfold sQ at j
  rw[f2] at j
  by_cases h0:((k:Nat):Int)=0
  · rw[if_pos h0] at j
    have hk:k=0:=by omega
    subst hk
    exact ⟨0,0,p.ok.z j.1,F.ok.z j.2,Nm.zero⟩
  · rw[if_neg h0] at j
    have a2:0<k:=by omega
    obtain ⟨i,s,f⟩:=j
    have s1 : ¬sgD S.Q.neg S.Q.m<=0:=λz=>i (.inl z)
    have s2 : ¬S.Q.e < -2148:=λz=>i (.inr (.inl z))
    have s3:S.V.m≠0->¬S.V.e < -1074:=λy z=>i (.inr (.inr ⟨y,z⟩))
    have g:S.Q.m≠0:=λe=>s1 (by unfold sgD;rw[if_pos e];exact Int.le_refl _)
    have l:S.Q.neg=false:=by
      cases z:S.Q.neg with
      | false=>rfl
      | true=>exact absurd (by unfold sgD;rw[if_neg g,z];decide) s1
    have U:=F.ok.odd g
    have d0:=F.e
    have c9:=p.e
    obtain ⟨a,ha⟩ : ∃ a:Nat,S.Q.e = -2148+(a:Int):=⟨(S.Q.e+2148).toNat,by omega⟩
    have a3:0<S.Q.m*2^a:=Nat.mul_pos oO (Nat.two_pow_pos a)
    -- below the greatest square
    have Y : ∀ M:Nat,M=2^4196->S.Q.m*2^a<M*k/\InB (((M*k:Nat)):Int):=by
      intro M O
      have hp:=pow4236 4196 rfl
      have hb:((16384*BB:Nat):Int)=4398046511104*(M:Int):=by
        have h1:(16384*BB:Nat)=4398046511104*M:=by rw[b4x,O]<;>exact hp
        rw[h1,Int.natCast_mul]<;>rfl
      have ht:=topD_sum 4196 rfl
      rw[<- O] at ht
      have a4:0<M:=by rw[O];exact Nat.two_pow_pos _
      clear O hp
      have h2:M*k<=M*1099511627776:=Nat.mul_le_mul_left _ hn
      have h3:0<M*k:=Nat.mul_pos a4 a2
      have H:InB (M:Int):=by unfold InB;rw[hb];omega
      have d:InB (((M*k:Nat)):Int):=by unfold InB;rw[hb];omega
      rw[ht,d7j,mulD_int H oO oO (by rw[<- Int.natCast_mul];exact d),Option.getD_some,<- Int.natCast_mul] at s
      obtain ⟨b,b1,b2,b3,b4,b5,b6⟩:=b5q d oO
      have X:(fQ (((M*k:Nat)):Int)).m≠0:=λe=>by rw[e] at b4;cases b4
      rw[cmpY_pos (a:=a) (b:=b) l (by rw[b3];exact decide_eq_false oO) g X oO,<- b1,Int.natAbs_natCast] at s
      refine ⟨Classical.byContradiction λz=>?_,d⟩
      have:=dfx.2 (Nat.le_of_not_lt z)
      omega
    obtain ⟨Z,w⟩:=Y _ rfl
    have D:InB ((S.Q.m*2^a:Nat):Int):=by
      have:=w.2
      have:=w.1
      constructor<;>omega
    have eQ:S.Q=fQ ((S.Q.m*2^a:Nat):Int):=d4x F.ok (by rw[Int.natAbs_natCast]) (λ_=>by rw[l];exact (decide_eq_false oO).symm) ha D
    have h:(((S.Q.m*2^a:Nat)):Int)<(k:Int)*((2^4196:Nat):Int):=by
      rw[<- Int.natCast_mul,Nat.mul_comm k];exact Int.ofNat_lt.2 Z
    by_cases hvm:S.V.m=0
    · refine ⟨0,_,p.ok.z hvm,eQ,⟨λ_ _=>⟨0,by simp⟩,Int.natCast_nonneg _,λz=>absurd z oO,λ_=>by omega,λ_=>h,?_⟩⟩
      rw[Int.zero_mul]
      exact Int.mul_nonneg (Int.natCast_nonneg _) (Int.mul_nonneg (Int.natCast_nonneg _) (Int.natCast_nonneg _))
    · have q:=p.ok.odd hvm
      have s4:=s3 hvm
      obtain ⟨c,hc⟩ : ∃ c:Nat,S.V.e = -1074+(c:Int):=⟨(S.V.e+1074).toNat,by omega⟩
      obtain ⟨t,I,t2,t3⟩:=cvj (n:=k) oO oO
      have B:(cJ ((k:Nat):Int)).m≠0:=λe=>by rw[e,Nat.zero_mul] at I;omega
      have a0:=(xZ (n:=((k:Nat):Int)) oO).odd B
      have b7:(cJ ((k:Nat):Int)).m<=k:=by
        conv=>rhs;rw[I]
        exact Nat.le_mul_of_pos_right _ (Nat.two_pow_pos t)
      have r:2^t<=k:=by
        conv=>rhs;rw[I]
        exact Nat.le_mul_of_pos_left _ oO
      have a7:t<41:=by
        have a6:k<2^41:=by omega
        exact (Nat.pow_lt_pow_iff_right (by omega:1<2)).1 (Nat.lt_of_le_of_lt r a6)
      have a1:(wd (cJ ((k:Nat):Int)).m).length<=4000:=by
        have:(wd (cJ ((k:Nat):Int)).m).length<=2:=aX.2 oO
        omega
      have l1:=p.len
      have l2:=F.len
      have R:(S.V.neg != S.V.neg)=false:=by cases S.V.neg<;>rfl
      rw[d7q q q oO oO oO oO,d7q a0 U a1 oO oO oO,Option.getD_some,Option.getD_some,
        cmpY_pos (a:=c+1074+(c+1074)) (b:=t+a+2148) R (by dsimp only;rw[t3,l];rfl) (Nat.mul_ne_zero hvm hvm) (Nat.mul_ne_zero B g) (by dsimp only;omega),bjx] at f
      dsimp only at f
      have C:S.V.m*2^(c+1074)*(S.V.m*2^(c+1074))<=k*(S.Q.m*2^a*2^2148):=by
        have r2:=sh2 (cJ ((k:Nat):Int)).m S.Q.m t a 2148
        rw[<- r2,<- I] at f
        have r1 : ∀ u v:Nat,v*2^u*(v*2^u)=v*v*2^(u+u):=λu v=>by rw[Nat.pow_add];ac_rfl
        rw[r1];exact f
      obtain ⟨N,J⟩ : ∃ N:Nat,N=S.V.m*2^(c+1074):=⟨_,rfl⟩
      rw[<- J] at C
      obtain ⟨A,o,a5⟩ : ∃ A:Int,A.natAbs=N/\S.V.neg=decide (A<0):=by
        have d4:0<N:=by rw[J];exact Nat.mul_pos oO (Nat.two_pow_pos _)
        cases z:S.V.neg with
        | false=>exact ⟨(N:Int),Int.natAbs_natCast N,(decide_eq_false oO).symm⟩
        | true=>exact ⟨-(N:Int),by omega,(decide_eq_true oO).symm⟩
      have G:Nm k A ((S.Q.m*2^a:Nat):Int):=by
        refine ⟨λx hx=>?_,Int.natCast_nonneg _,λz=>absurd z oO,λ_=>by omega,λ_=>h,?_⟩
        · have hd:((2^x:Nat):Int) ∣ A:=by
            rw[Int.ofNat_dvd_left,o,J,hx,Nat.pow_add,<- Nat.mul_assoc]
            exact Nat.dvd_mul_left _ _
          obtain ⟨z,hz⟩:=hd
          exact ⟨z,by rw[hz,Int.mul_comm]⟩
        · have w1:((N*N:Nat):Int)=A*A:=by rw[<- o,Int.natCast_mul,Int.natAbs_mul_self']
          rw[<- w1,<- Int.natCast_mul,<- Int.natCast_mul]
          exact Int.ofNat_le.2 C
      exact ⟨A,_,d4x (a:=c+1074) p.ok (by rw[o,J]) (λ_=>a5) oO (G.inA hn),eQ,G⟩
theorem Gn.read{b:List Nat}(d:B8 b){S:Sh}(h:apx b=some S):Gn S/\S.noE:=by
  obtain ⟨a,l,k,j,i,g,f,e⟩:=decS_parts d h
  have m:0<=S.pln/\S.pln<=1099511627776:=by
    have:=a
    unfold cZ at this
    unfold Sh.pln Sh.fin
    omega
  refine ⟨⟨a,j,i,Nm.from l k oO oO f,e⟩,g⟩
end
section
open Go Sx Wd Fl
set_option exponentiation.threshold 9000
theorem Gn.var{S:Sh}(h:Gn S){d mode C D:Int}{b b':Nat}{e e':Int}(g:varShR S d mode C D b e)(i:varRefR S d mode C D b' e'):b=b'/\e=e':=by
  obtain ⟨A,T,M,O,J⟩:=h.nm
  have Z:=h.p0
  rcases g with ⟨a,o,l⟩|⟨a,g⟩<;>rcases i with ⟨H,m,k⟩|⟨H,i⟩
  · exact ⟨o.trans m.symm,l.trans k.symm⟩
  · exact absurd H a
  · exact absurd a H
  rcases g with ⟨s,o,l⟩|⟨s,g⟩<;>rcases i with ⟨B,m,k⟩|⟨B,i⟩
  · exact ⟨o.trans m.symm,l.trans k.symm⟩
  · exact absurd B s
  · exact absurd s B
  rcases g with ⟨c,o,l⟩|⟨c,g⟩<;>rcases i with ⟨G,m,k⟩|⟨G,i⟩
  · exact ⟨o.trans m.symm,l.trans k.symm⟩
  · exact absurd c G
  · exact absurd G c
  rcases g with ⟨f,o,l⟩|⟨f,g⟩<;>rcases i with ⟨R,m,k⟩|⟨R,i⟩
  · exact ⟨o.trans m.symm,l.trans k.symm⟩
  · omega
  · omega
  obtain ⟨x,y,v,t,r,F⟩:=var_some (J.inA oO) (J.inT oO) (n:=S.fin) oO
  rw[<- O] at t
  rw[<- M] at r
  have p:numD S.fin S.V S.Q=v:=by unfold numD;rw[t,r];show (crj x y).getD _=v;rw[F];rfl
  have q:denD S.fin d=timD (cJ S.fin) (cJ (S.fin-d)):=(timD_eq (xZ oO)).symm
  rw[p,q] at i
  have j:0<=mode/\mode<=4:=Classical.byContradiction λz=>by
    have:shE S.s mode C D=1:=if_pos λy=>z y.1
    rw[this] at s;cases s
  rcases g with ⟨z,_⟩|⟨_,⟨z,_⟩|⟨X,U,w,u,⟨z,_⟩|⟨Y,I,⟨z,_⟩|⟨_,g⟩⟩⟩⟩
  · exact absurd ⟨j,a,by omega,by omega⟩ z
  · rcases z with z|z
    · rw[t] at z;cases z
    · rw[r] at z;cases z
  · rw[t] at w;cases w;rw[r] at u;cases u;rw[F] at z;cases z
  · omega
  · rw[t] at w;cases w;rw[r] at u;cases u;rw[F] at I;cases I
    exact b0j g i
theorem d1q{S:Sh}{mode l m:Int}{b b':Nat}{e e':Int}(f:c8q S mode l m b e)(d:c8q S mode l m b' e'):b=b'/\e=e':=by
  rcases f with ⟨s,j,h⟩|⟨s,f⟩<;>rcases d with ⟨k,i,g⟩|⟨k,d⟩
  · exact ⟨j.trans i.symm,h.trans g.symm⟩
  · exact absurd k s
  · exact absurd s k
  rcases f with ⟨x,c,j,h⟩|⟨c,f⟩<;>rcases d with ⟨y,a,i,g⟩|⟨a,d⟩
  · rw[c] at a;cases a;exact ⟨j.trans i.symm,h.trans g.symm⟩
  · rw[c] at a;cases a
  · rw[c] at a;cases a
  rcases f with ⟨c,j,h⟩|⟨c,f⟩<;>rcases d with ⟨a,i,g⟩|⟨a,d⟩
  · exact ⟨j.trans i.symm,h.trans g.symm⟩
  · exact absurd c a
  · exact absurd a c
  rcases f with ⟨c,j,h⟩|⟨c,f⟩<;>rcases d with ⟨a,i,g⟩|⟨a,d⟩
  · exact ⟨j.trans i.symm,h.trans g.symm⟩
  · exact absurd c a
  · exact absurd a c
  · exact b0j f d
end
section
open Go Sx Wd Fl
namespace Sx
section
variable {P:Program} {ops:Array Oper} {K:KK} {fuel:Nat} {listed:Array Bool} {n:Nat} {D:List Deferred} {s:Sl} {w:World} {ty:TypeId} {pos:String} {af:Array Edge} {d:Nat} {x y:Operand}
end
end Sx
end
section
open Go Sx Wd Fl
end
section
open Go Sx Go.RowKit Go.Extern.Stop Go.Stop Go.Extern
set_option maxRecDepth 200000
end
section
open Go Sx Go.RowKit Go.Extern.Stop Go.Stop Go.Extern
set_option maxRecDepth 200000
end
section
open Go Sx Wd Fl
structure GF(w:World)(ea:Nat->Addr):Prop where
  ge:GE w (evV ea)
  cell : ∀ c,1<=c->c<=4->∃ cs t,w.heap[(ea c).block]?=some (.cells cs t (0,0))
  ne : ∀ c d,1<=c->c<=4->1<=d->d<=4->c≠d->ea c≠ea d
  et:w.cell? ⟨1,0,none⟩=some (.iface 245 (.agg #[.pointer (some ⟨7,107,none⟩)]))
namespace Sx
section
variable {r:Option Nat} {P:Program} {A:AQ} {n:Nat} {D:List Deferred} {s:Sl} {w:World}
variable {ops:Array Oper} {K:KK} {fuel:Nat} {listed:Array Bool} {pos:String} {af:Array Edge} {ty:TypeId}
end
end Sx
end
section
open Go Sx Wd Fl
theorem BK.neT{w:World}{b c:Nat}{T T':TypeId}{cs f:List Value}(h:BK w b T cs)(d:BK w c T' f)(a:T≠T'):b≠c:=λe=>by
  subst e
  have:=h.symm.trans d
  simp at this
  exact a this.2
structure GoodG(G:List RG):Prop where
  g : ∀ g∈G,1<=(sB g.1).length/\(sB g.1).length<=64/\B8 g.2.1/\apx g.2.1≠none
  tot:totG G<=1048576
def l12:List Nat:=[4607182418800017408,4611686018427387904]
theorem ex0:Sh.zero.ex:=⟨by decide,by decide,by show (wd 0).length<=160;rw[fX];decide,by show (wd 0).length<=160;rw[fX];decide⟩
theorem w12 : ∀ x∈l12,x<18446744073709551616:=by decide
def aw1:Nat:=4607182418800017408
def aw3:Nat:=4613937818241073152
def awS:Sh:=(Sh.zero.merge (Sh.one aw1)).merge (Sh.one aw3)
theorem aw_gn1:Gn (Sh.zero.merge (Sh.one aw1)):=Gn.zero.merge (Gn.one oD) oD
theorem aw_gn:Gn awS:=aw_gn1.merge (Gn.one oD) (by decide +kernel)
theorem aw_no1:(Sh.zero.merge (Sh.one aw1)).noE:=cuj Gn.zero (Gn.one (x:=aw1) oD) (λ_=>⟨rfl,rfl⟩)
theorem aw_no:awS.noE:=cuj aw_gn1 (Gn.one (x:=aw3) oD) aw_no1
theorem aw_sum{b:Nat}{e:Int}(h:crq awS 0 0 0 b e):b=4616189618054758400/\e=0:=by
  refine cjq rfl rfl h (.inr ⟨by decide +kernel,.inr ⟨by decide +kernel,.inr ⟨by decide +kernel,.inr ⟨by decide,.inr ⟨awS.V,4616189618054758400,rfl,near_is oD (zZ _) (by decide +kernel),by decide,by decide +kernel,rfl⟩⟩⟩⟩⟩)
theorem aw_var{b:Nat}{e:Int}(h:varShR awS 1 0 0 0 b e):b=4611686018427387904/\e=0:=by
  rcases h with ⟨a,_⟩|⟨_,h⟩
  · exact absurd (.inr rfl) a
  rcases h with ⟨a,_⟩|⟨_,h⟩
  · exact absurd (by decide +kernel) a
  rcases h with ⟨a,_⟩|⟨_,h⟩
  · exact absurd a (by decide +kernel)
  rcases h with ⟨a,_⟩|⟨_,h⟩
  · exact absurd a (by decide +kernel)
  have k:gX (cJ awS.fin) awS.Q = .some ⟨false,5,2⟩:=by kernel_rfl
  have j:gX awS.V awS.V = .some ⟨false,1,4⟩:=by kernel_rfl
  rcases h with ⟨a,_⟩|⟨_,h⟩
  · exact absurd ⟨⟨by decide,by decide⟩,.inr rfl,by decide +kernel,by decide +kernel⟩ a
  rcases h with ⟨a|a,_⟩|⟨x,y,g,f,h⟩
  · rw[k] at a;cases a
  · rw[j] at a;cases a
  rw[k] at g
  rw[j] at f
  obtain rfl:=Option.some.inj g
  obtain rfl:=Option.some.inj f
  have i:crj ⟨false,5,2⟩ ⟨false,1,4⟩ = .some ⟨false,1,2⟩:=by kernel_rfl
  rcases h with ⟨a,_⟩|⟨v,d,h⟩
  · rw[i] at a;cases a
  rw[i] at d
  obtain rfl:=Option.some.inj d
  rcases h with ⟨a,_⟩|⟨_,h⟩
  · exact absurd a (by decide +kernel)
  refine b0j h (b':=4611686018427387904) (e':=0) ?_
  exact .inr ⟨by decide,.inr (.inr ⟨by decide +kernel,⟨false,1,2⟩,⟨false,1,1⟩,by kernel_rfl,by kernel_rfl,.inr ⟨by decide,4611686018427387904,near_is oD (by decide +kernel) (by decide +kernel),by decide,by decide +kernel,rfl⟩⟩)⟩
theorem aw_len0:(ahx Sh.zero).length=58:=by decide +kernel
theorem aw_len:(ahx awS).length=82:=by decide +kernel
theorem aw_at:(ahx awS).getD 40 0=2:=by decide +kernel
theorem dec_nil:apx []=none:=by
  unfold apx
  rw[if_pos (.inl (by decide +kernel))]
structure KEq(b:Nat)(S:Sh)(rv rq:Value)(w0:World)(g:Nat×Value)(w:World):Prop where
  hi:g.1<=6
  hb:BK w b 91 [.int .i64 (S.s.na:Int),.int .i64 (S.s.up:Int),.int .i64 (S.s.dn:Int),.int .i64 (S.s.mi:Int),.int .i64 (S.s.pl:Int),.int .i64 (S.s.al:Int),.bool S.V.neg,rv,.int .i64 S.V.e,.bool S.Q.neg,rq,.int .i64 S.Q.e,.float .f64 S.lo,.float .f64 S.hi]
  g:PQ w 5 1 w0.heap.size g.2 (((([S.s.na,S.s.up,S.s.dn,S.s.mi,S.s.pl,S.s.al].take g.1).map λy=>leB y 8).flatten)).length ((((([S.s.na,S.s.up,S.s.dn,S.s.mi,S.s.pl,S.s.al].take g.1).map λy=>leB y 8).flatten)).map u8v)
  ch:Chg [] w0 w
theorem avj(b:Nat)(S:Sh)(w:World)(hS:ShM 91 w b S)(c5:S.wf)(l:S.ex):Ret Tryz.prog 11 [.pointer (some ⟨b,0,none⟩)] w λu w'=>PQ w' 5 1 w.heap.size u (ahx S).length ((ahx S).map u8v)/\Chg [] w w':=by
 obtain ⟨rv,rq,f,p,r⟩:=hS;obtain ⟨⟨a8,a7,a6,a5,a4,a3⟩,c8,c9,d0,d1⟩:=c5;have j:=f;have d7:=l.lv;have d8:=l.lq;have a:=crf w;refine zE1 Tryz.func11 rfl ?_;refine Sr λ_ c4=>za rfl (zz (c4 (Sr λ_ c3=>za rfl (zz (c3 (zc λ_ c2=>zc λ_ c1=>?_))))));refine CW.jQ dZ oR λf0 b8 b4=>?_;have a:=a.ta b4;have f:=f.q8 b4;refine ym rfl (yP rfl (yf rfl (yf rfl ?_)));refine WS.ev (Ev.load rfl rfl (f.at_ rfl)) rfl ?_;refine ym rfl (yP rfl (yf rfl (yf rfl ?_)));refine WS.ev (Ev.load rfl rfl (f.at_ rfl)) rfl ?_;refine ym rfl (yP rfl (yf rfl (yf rfl ?_)));refine WS.ev (Ev.load rfl rfl (f.at_ rfl)) rfl ?_;refine ym rfl (yP rfl (yf rfl (yf rfl ?_)));refine WS.ev (Ev.load rfl rfl (f.at_ rfl)) rfl ?_;refine ym rfl (yP rfl (yf rfl (yf rfl ?_)));refine WS.ev (Ev.load rfl rfl (f.at_ rfl)) rfl ?_;refine ym rfl (yP rfl (yf rfl (yf rfl ?_)));refine WS.ev (Ev.load rfl rfl (f.at_ rfl)) rfl ?_;refine WS.ev (Ev.buildA (vs:=_) (cs:=[.int .i64 (S.s.na:Int),.int .i64 (S.s.up:Int),.int .i64 (S.s.dn:Int),.int .i64 (S.s.mi:Int),.int .i64 (S.s.pl:Int),.int .i64 (S.s.al:Int)]) rfl oR) rfl ?_;refine ym rfl ?_;refine WS.nil (b8 _ _ ?_);refine c1 (CW.block ?_);refine CW.loop (S:=λg:Nat×Value=>[(0,.pointer (some ⟨b,0,none⟩)),(3,g.2),(36,.agg [.int .i64 (S.s.na:Int),.int .i64 (S.s.up:Int),.int .i64 (S.s.dn:Int),.int .i64 (S.s.mi:Int),.int .i64 (S.s.pl:Int),.int .i64 (S.s.al:Int)].toArray),(37,.int .i64 (g.1:Int))]) (Inv:=KEq b S rv rq w) (mu:=λg=>6-g.1) ((0,.slice none 0 0)) ?_ ?_ ?_
 ·exact ⟨by decide,f,PQ.nil,a⟩
 ·exact SLp
 rintro ⟨i,vi⟩ wr ⟨hi,f,d,a⟩;dsimp only at hi d a;dsimp only;refine Sr λ_ b9=>zL rfl rfl (zz (b9 (zc λ_ X=>?_)));refine zy rfl ?_ ?_<;>intro c7<;>try simp only[qs] at c7
 ·have f1:=cnt6_le ⟨a8,a7,a6,a5,a4,a3⟩ i
  refine zkk (X (zc λ_ U=>CW.block (Sr λ_ T=>?_)));refine WL.ev (Ev.indexAr (v:=.int .i64 (([S.s.na,S.s.up,S.s.dn,S.s.mi,S.s.pl,S.s.al].getD i 0:Nat):Int)) (i:=i) rfl rfl oO rfl (cnt6_at S.s oO)) rfl ?_;refine za rfl (zz (T ?_));refine zR λ_ G=>?_;refine zm rfl (zm rfl ?_);refine WL.ev (Ev.eZ rfl rfl (jX oO)) rfl ?_;refine WL.call hasF45 rfl rfl (bpq ([S.s.na,S.s.up,S.s.dn,S.s.mi,S.s.pl,S.s.al].getD i 0) 8 _ oO oD) λv w1 m=>?_;obtain ⟨⟨f7,rfl,a2,d6⟩,h⟩:=m;have d:=d.q8 h;have a:=a.ta h;have f:=f.q8 h;refine WL.app8 (news:=leB ([S.s.na,S.s.up,S.s.dn,S.s.mi,S.s.pl,S.s.al].getD i 0) 8) rfl rfl d (by rw[iQ]) a2.row a.size (by simp only[List.length_append,iQ,qQ,pJ,List.length_take,List.length_cons,List.length_nil];omega) (by simp only[List.length_append,iQ,qQ,pJ,List.length_take,List.length_cons,List.length_nil];omega) rfl λb5 e4 b3 B n=>?_;have e:=PQ.frame d B a (Nat.le_refl _);have f:=j.q8 e;have a:=e;have d:=b3;rw[<- dtj (by simp only[List.length_cons,List.length_nil];omega)] at d;refine za rfl ?_;refine WL.nil (G _ _ _ (U ?_));refine zS λ_ F=>?_;(first|refine zi rfl rfl ?_|refine zo rfl rfl ?_);refine zm rfl (zz (F ?_));refine ⟨rfl,(i+1,b5),?_,?_,?_⟩
  ·exact SLp
  ·exact ⟨by dsimp only;omega,f,d,a⟩
  show 6-(i+1)<6-i;omega
 have c6:i=6:=by omega
 subst c6;have d:PQ wr 5 1 w.heap.size vi ((([S.s.na,S.s.up,S.s.dn,S.s.mi,S.s.pl,S.s.al].map λy=>leB y 8).flatten)).length (((([S.s.na,S.s.up,S.s.dn,S.s.mi,S.s.pl,S.s.al].map λy=>leB y 8).flatten)).map u8v):=d;refine CW.exit ?_;refine c2 (Sr λ_ R=>zm rfl (zm rfl (zP rfl (zf rfl ?_))));refine WL.ev (Ev.fZ rfl rfl f rfl rfl) rfl ?_
 try simp only[oL]
 refine WL.call hasF46 rfl rfl (chj S.V rv _ (p.at_ a) l.v (by have:=l.lv;omega)) λv w2 m=>?_;obtain ⟨⟨f6,rfl,a1,d5⟩,h⟩:=m;have d:=d.q8 h;have a:=a.ta h;have f:=f.q8 h;refine WL.app8 (news:=alq S.V) rfl rfl d (rfl) a1.row a.size (by simp only[List.length_append,iQ,qQ,pJ,List.length_take,List.length_cons,List.length_nil];omega) (by simp only[List.length_append,iQ,qQ,pJ,List.length_take,List.length_cons,List.length_nil];omega) rfl λe9 e3 b2 A n=>?_;have e:=PQ.frame d A a (Nat.le_refl _);have f:=j.q8 e;have a:=e;have d:=b2;refine za rfl (zz (R (Sr λ_ O=>zm rfl (zm rfl (zP rfl (zf rfl ?_))))));refine WL.ev (Ev.fZ rfl rfl f rfl rfl) rfl ?_
 try simp only[oL]
 refine WL.call hasF46 rfl rfl (chj S.Q rq _ (r.at_ a) l.q (by have:=l.lq;omega)) λv w3 m=>?_;obtain ⟨⟨f5,rfl,a0,d4⟩,h⟩:=m;have d:=d.q8 h;have a:=a.ta h;have f:=f.q8 h;refine WL.app8 (news:=alq S.Q) rfl rfl d (rfl) a0.row a.size (by simp only[List.length_append,iQ,qQ,pJ,List.length_take,List.length_cons,List.length_nil];omega) (by simp only[List.length_append,iQ,qQ,pJ,List.length_take,List.length_cons,List.length_nil];omega) rfl λe8 e2 b1 z n=>?_;have e:=PQ.frame d z a (Nat.le_refl _);have f:=j.q8 e;have a:=e;have d:=b1;refine za rfl (zz (O (zc λ_ o=>Sr λ_ M=>zm rfl ?_)));refine WL.call hasF47 rfl rfl (asj b S _ ⟨rv,rq,f,p.q8 a,r.q8 a⟩ ⟨a8,a7,a6,a5,a4,a3⟩) λv w4 m=>?_;obtain ⟨rfl,h⟩:=m;have d:=d.q8 h;have a:=a.ta h;have f:=f.q8 h;refine zz (M ?_);refine zy rfl ?_ ?_<;>intro C<;>try simp only[qs] at C
 ·have k:S.some:=by simpa using C
  refine Sr λ_ J=>zm rfl (zm rfl (zP rfl (zf rfl (zl f rfl rfl ?_))));refine WL.ev (Ev.ext rfl (ext48 _ _)) rfl ?_;refine WL.call hasF45 rfl rfl (bpq (S.lo) 8 _ oO oD) λv w5 m=>?_;obtain ⟨⟨f4,rfl,Z,d3⟩,h⟩:=m;have d:=d.q8 h;have a:=a.ta h;have f:=f.q8 h;refine WL.app8 (news:=leB S.lo 8) rfl rfl d (by rw[iQ]) Z.row a.size (by simp only[List.length_append,iQ,qQ,pJ,List.length_take,List.length_cons,List.length_nil];omega) (by simp only[List.length_append,iQ,qQ,pJ,List.length_take,List.length_cons,List.length_nil];omega) rfl λe7 e1 b0 x n=>?_;have e:=PQ.frame d x a (Nat.le_refl _);have f:=j.q8 e;have a:=e;have d:=b0;refine za rfl (zz (J ?_));refine zR λ_ D=>?_;refine zm rfl (zm rfl (zP rfl (zf rfl (zl f rfl rfl ?_))));refine WL.ev (Ev.ext rfl (ext48 _ _)) rfl ?_;refine WL.call hasF45 rfl rfl (bpq (S.hi) 8 _ oO oD) λv w6 m=>?_;obtain ⟨⟨f3,rfl,Y,d2⟩,h⟩:=m;have d:=d.q8 h;have a:=a.ta h;have f:=f.q8 h;refine WL.app8 (news:=leB S.hi 8) rfl rfl d (by rw[iQ]) Y.row a.size (by simp only[List.length_append,iQ,qQ,pJ,List.length_take,List.length_cons,List.length_nil];omega) (by simp only[List.length_append,iQ,qQ,pJ,List.length_take,List.length_cons,List.length_nil];omega) rfl λe6 e0 a9 t n=>?_;have e:=PQ.frame d t a (Nat.le_refl _);have f:=j.q8 e;have a:=e;have d:=a9;refine za rfl ?_;refine WL.nil (D _ _ _ (o ?_));refine Sr λ_ I=>zm rfl (za rfl (zz (I ?_)));refine zr (zr1 rfl rfl ?_);refine ⟨?_,a⟩;unfold ahx;rw[if_pos k]
  simpa using d
 have k : ¬S.some:=by simpa using C
 refine zkk (o (Sr λ_ H=>zm rfl (za rfl (zz (H ?_)))));refine zr (zr1 rfl rfl ?_);refine ⟨?_,a⟩;unfold ahx;rw[if_neg k,List.append_nil]
 simpa using d
theorem GR.bij{w:World}{lo:Nat}{X:List Nat}{v:Value}{l:List Nat}(h:GR w 5 u8v lo X v l): ∃ a c,v = .slice a l.length c/\l.length<=c/\RW w a (l.map u8v)/\∀ ad,a=some ad->ad.block<w.heap.size:=by
  obtain ⟨a,c,rfl,f,d⟩:=h.row
  refine ⟨a,c,rfl,f,d,λad e=>?_⟩
  subst e
  exact h.lt (b:=ad.block) rfl
theorem awake_spec(w:World)(hg:GW w):Ret Tryz.prog 7 [] w λu w'=>u = .bool true/\Chg [] w w':=by
 have a:=crf w;have i:=hg;refine zE0 Tryz.func7 rfl ?_;refine Sr λ_ M=>za rfl (zz (M (Sr λ_ J=>?_)));refine WL.call hasF21 rfl rfl (dex _) λv w1 g=>?_;obtain ⟨⟨b,rfl,h,k⟩,f⟩:=g;have k:w.heap.size<=b:=Nat.le_trans a.size k;have a:=a.ta f;refine za rfl (zz (J (zc λ_ I=>Sr λ_ H=>zm rfl ?_)));refine WL.ev (Ev.a0j rfl rfl) rfl ?_;refine zz (H ?_);refine CW.mQ rfl ?_;refine zkk (I (Sr λ_ G=>zm rfl ?_));refine WL.call hasF11 rfl rfl (avj b Sh.zero _ h Sh.wf.zero ex0) λv w2 g=>?_;obtain ⟨D,f⟩:=g;obtain ⟨a5,a4,rfl,F,Q,R⟩:=D.bij;rw[aw_len0];have a:=a.ta f;have h:=h.q8 f;refine za rfl (zz (G (Sr λ_ A=>zm rfl ?_)));refine WL.call hasF22 rfl rfl (bsq b Sh.zero aw1 _ h Sh.wf.zero oD (i.q8 a)) λv w3 g=>?_;rcases g with ⟨j,_⟩|⟨_,rfl,n,f⟩
 · exact absurd j oD
 have h:=n;have a:=a.step f (λy O=>.inr (by rw[List.mem_singleton.1 O];exact k));refine za rfl (zz (A (Sr λ_ z=>zm rfl ?_)));refine WL.call hasF22 rfl rfl (bsq b (Sh.zero.merge (Sh.one aw1)) aw3 _ h aw_gn1.wf oD (i.q8 a)) λv w4 g=>?_;rcases g with ⟨j,_⟩|⟨_,rfl,n,f⟩
 · exact absurd j (by decide +kernel)
 have h:=n;have a:=a.step f (λy O=>.inr (by rw[List.mem_singleton.1 O];exact k));refine za rfl (zz (z (Sr λ_ t=>zm rfl ?_)));refine WL.ev (Ev.build (vs:=_) (cs:=[_,_]) rfl rfl) rfl ?_;refine WL.call hasF23 rfl rfl (ddj b awS 0 0 0 _ h aw_gn.wf (i.q8 a)) λv w5 g=>?_;obtain ⟨⟨x1,e1,rfl,U⟩,f⟩:=g;obtain ⟨rfl,rfl⟩:=aw_sum U;have a:=a.ta f;have h:=h.q8 f;refine zm rfl (zx rfl rfl (zx rfl rfl (za rfl (za rfl (zz (t (Sr λ_ s=>zm rfl ?_)))))));refine WL.ev (Ev.build (vs:=_) (cs:=[_,_]) rfl rfl) rfl ?_;refine WL.call hasF24 rfl rfl (ddq b awS 1 0 0 0 _ h aw_gn.wf (i.q8 a)) λv w6 g=>?_;obtain ⟨⟨x1,e1,rfl,U⟩,f⟩:=g;obtain ⟨rfl,rfl⟩:=aw_var U;have a:=a.ta f;have h:=h.q8 f;refine zm rfl (zx rfl rfl (zx rfl rfl (za rfl (za rfl (zz (s (Sr λ_ r=>zm rfl ?_)))))));refine WL.call hasF11 rfl rfl (avj b awS _ h aw_gn.wf aw_gn.ex) λv w7 g=>?_;obtain ⟨C,f⟩:=g;obtain ⟨Y,X,rfl,l,d,m⟩:=C.bij;have a:=a.ta f;refine za rfl (zz (r (Sr λ_ q=>zm rfl ?_)));refine WL.call hasF25 rfl rfl (blj Y (ahx awS) X _ d l m (encS_B8 _) (by rw[aw_len];decide) (i.q8 a)) λv w8 g=>?_;obtain ⟨V,f⟩:=g;rcases V with ⟨T,bt,-,rfl,-,-,-⟩|⟨B,-⟩
 rotate_left
 · rw[aw_gn.dec aw_no] at B;cases B
 have a:=a.ta f;have d:=d.q8 f;refine zm rfl (zx rfl rfl (zx rfl rfl (za rfl (za rfl (zz (q (Sr λ_ p=>?_)))))));refine WL.call hasF25 rfl rfl (blj none [] 0 _ RW.nil (Nat.le_refl _) (λad e=>by cases e) (λx hx=>by cases hx) oD (i.q8 a)) λv w9 g=>?_;obtain ⟨V,f⟩:=g;rcases V with ⟨T,b2,Z,_⟩|⟨-,rfl⟩
 · rw[dec_nil] at Z;cases Z
 have a:=a.ta f;have d:=d.q8 f;refine zm rfl (zx rfl rfl (zx rfl rfl (za rfl (za rfl (zz (p (Sr λ_ o=>zm rfl (zn rfl (zq rfl rfl ?_)))))))));rw[show decide (((58:Nat):Int)=58)=true from rfl];refine zm rfl (zw rfl (zm rfl (zw rfl (zq rfl rfl ?_))));rw[decide_eq_true (rfl)];refine zt rfl rfl (zm rfl (zw rfl (zm rfl (zw rfl (zq rfl rfl ?_)))));rw[decide_eq_true (rfl)];refine zt rfl rfl (zm rfl (zw rfl (zm rfl (zw rfl ?_))));refine WL.ev (Ev.feql rfl rfl) rfl ?_;rw[show (FloatKind.f64.format.order 4616189618054758400 4616189618054758400==some .eq)=true by rw[Fl.caj];decide];refine zt rfl rfl (zm rfl (zw rfl (zm rfl (zw rfl (zq rfl rfl ?_)))));rw[decide_eq_true (rfl)];refine zt rfl rfl (zm rfl (zw rfl (zm rfl (zw rfl ?_))));refine WL.ev (Ev.feql rfl rfl) rfl ?_;rw[show (FloatKind.f64.format.order 4611686018427387904 4611686018427387904==some .eq)=true by rw[Fl.caj];decide];refine zt rfl rfl (zm rfl (zw rfl (zm rfl (zw rfl (zq rfl rfl ?_)))));rw[decide_eq_true (rfl)];refine zt rfl rfl (zm rfl (zw rfl (zm rfl (zw rfl (zn rfl ?_)))));rw[aw_len];refine zw rfl (zq rfl rfl ?_);rw[show decide (((82:Nat):Int)=82)=true from rfl];refine zt rfl rfl (zm rfl (zw rfl (zm rfl (zw rfl ?_))));refine WL.ev (Ev.ixR 40 rfl rfl d rfl oD (by rw[List.length_map,aw_len];decide)) rfl ?_;refine zw rfl ?_;refine WL.ev (Ev.load rfl rfl (d.u8 (by rw[aw_len];decide))) rfl ?_;rw[aw_at];refine zw rfl (zq rfl rfl ?_);rw[show decide (((2:Nat):Int)=2)=true from rfl];refine zt rfl rfl (zm rfl (zw rfl (zm rfl (zw rfl ?_))));refine WL.ev (Ev.a8q rfl rfl) rfl ?_;refine zt rfl rfl (zm rfl (zw rfl (zm rfl (zw rfl (zq rfl rfl ?_)))));rw[decide_eq_true (rfl)];refine zt rfl rfl (zm rfl (zw rfl (zm rfl (zw rfl (zq rfl rfl ?_)))));rw[decide_eq_true (rfl)];refine zt rfl rfl (za rfl (zz (o ?_)));refine zr (zr1 rfl rfl ?_);exact ⟨rfl,a⟩
abbrev PS:=Nat×Nat×Sh
def ajq(L:List PS):List Value:=(L.map λg=>[Value.pointer (some ⟨g.1,0,none⟩),.pointer (some ⟨g.2.1,0,none⟩)]).flatten
theorem pairC_len(L:List PS):(ajq L).length=L.length*2:=by
  induction L with
  | nil=>rfl
  | cons g L ih=>unfold ajq at *;rw[List.map_cons,List.flatten_cons,List.length_append,ih];simp;omega
theorem pairC_snoc(L:List PS)(g:PS):ajq (L++[g])=ajq L++[Value.pointer (some ⟨g.1,0,none⟩),.pointer (some ⟨g.2.1,0,none⟩)]:=by
  unfold ajq;rw[List.map_append,List.flatten_append];simp
theorem pairC_get(L:List PS)(i:Nat)(g:PS)(h:L[i]?=some g):(ajq L)[i*2]?=some (.pointer (some ⟨g.1,0,none⟩))/\(ajq L)[i*2+1]?=some (.pointer (some ⟨g.2.1,0,none⟩)):=by
  induction L generalizing i with
  | nil=>simp at h
  | cons a L ih=>
    have e:ajq (a::L) = .pointer (some ⟨a.1,0,none⟩)::.pointer (some ⟨a.2.1,0,none⟩)::ajq L:=rfl
    rw[e]
    cases i with
    | zero=>cases h;exact ⟨rfl,rfl⟩
    | succ i=>
      have:=ih i (by simpa using h)
      rw[show (i+1)*2=i*2+1+1 by omega]
      exact this
structure PlS(lo:Nat)(w:World)(L:List PS)(C:List (Value×List Nat)):Prop where
  sh : ∀ g∈L,ShM 91 w g.1 g.2.2/\ShM 148 w g.2.1 g.2.2/\Gn g.2.2/\g.2.2.noE/\lo<=g.1/\lo<=g.2.1
  nb:L.Pairwise λa b=>a.1≠b.1/\a.2.1≠b.2.1
  dat : ∀ x∈C,PQ w 5 1 lo x.1 x.2.length (x.2.map u8v)/\B8 x.2/\x.2.length<=100000
  nd:C.Pairwise λx y=>∀ b,x.1.ownBlock=some b->y.1.ownBlock≠some b
theorem PlS.q8{lo:Nat}{w w':World}{L:List PS}{C:List (Value×List Nat)}(h:PlS lo w L C)(a:Chg [] w w'):PlS lo w' L C:=
  ⟨λg hg=>⟨(h.sh g hg).1.q8 a,(h.sh g hg).2.1.q8 a,(h.sh g hg).2.2⟩,h.nb,λx hx=>⟨(h.dat x hx).1.q8 a,(h.dat x hx).2⟩,h.nd⟩
theorem PlS.q9{lo:Nat}{w w':World}{L:List PS}{C:List (Value×List Nat)}{b:Nat}{T:TypeId}{cs:List Value}(h:PlS lo w L C)(e:BK w b T cs)(d:Chg [b] w w')(a : ∀ c∈cs,xX c=false)(j:91≠T:=by decide)(i:148≠T:=by decide)(f:5≠T:=by decide):PlS lo w' L C:=
  ⟨λg hg=>⟨(h.sh g hg).1.q9 e d a j,(h.sh g hg).2.1.q9 e d a i,(h.sh g hg).2.2⟩,h.nb,λx hx=>⟨(h.dat x hx).1.q9 e d a f,(h.dat x hx).2⟩,h.nd⟩
theorem ShM.vJ{w w':World}{T e:TypeId}{n lo m b:Nat}{v:Value}{cs:List Value}{S:Sh}(h:ShM T w b S)(a:PQ w e n lo v m cs)(f:Chg v.ownBlock.toList w w')(d:e≠T:=by decide):ShM T w' b S:=by
  obtain ⟨g,i,j,l,k⟩:=h
  exact ⟨g,i,a.bk f j d,a.nu f l,a.nu f k⟩
theorem PlS.vJ{lo a:Nat}{w w':World}{L:List PS}{C:List (Value×List Nat)}{e:TypeId}{k m:Nat}{v:Value}{cs:List Value}(h:PlS lo w L C)(b:PQ w e k a v m cs)(d:Chg v.ownBlock.toList w w')(j:e≠91:=by decide)(i:e≠148:=by decide)(f:e≠5:=by decide):PlS lo w' L C:=
  ⟨λg hg=>⟨(h.sh g hg).1.vJ b d j,(h.sh g hg).2.1.vJ b d i,(h.sh g hg).2.2⟩,h.nb,λx hx=>⟨(h.dat x hx).1.other b d (λq=>f q.symm),(h.dat x hx).2⟩,h.nd⟩
theorem PlS.snocC{lo k:Nat}{w e:World}{L:List PS}{C:List (Value×List Nat)}{v:Value}{l:List Nat}(m:PlS lo e L C)(h:PlS lo w L C)(f:PQ w 5 1 k v l.length (l.map u8v))(n:e.heap.size<=k)(d:lo<=k)(j:B8 l/\l.length<=100000):PlS lo w L (C++[(v,l)]):=by
  refine ⟨h.sh,h.nb,λx a=>?_,?_⟩
  · rcases List.mem_append.1 a with q|q
    · exact h.dat x q
    · rw[List.mem_singleton.1 q]
      exact ⟨f.mono d,j⟩
  · rw[List.pairwise_append]
    refine ⟨h.nd,List.pairwise_singleton ..,λx a y g b i q=>?_⟩
    rw[List.mem_singleton.1 g] at q
    have p:=f.ge q
    have o:=(m.dat x a).1.lt i
    omega
structure PlM(lo:Nat)(w:World)(bp:Nat)(L:List PS)(C:List (Value×List Nat))(st:Prop):Prop where
  ex : ∃ vl vc vw ws,BK w bp 29 [vl,vc,vw]/\PQ w 42 2 lo vl L.length (ajq L)/\PQ w 35 1 lo vc C.length (C.map λx=>x.1)/\PQ w 9 1 lo vw C.length ws/\(st->ws=C.map λx=>.string (bA x.2))
  s:PlS lo w L C
  lob:lo<=bp
theorem PlM.q8{lo d:Nat}{w w':World}{L:List PS}{C:List (Value×List Nat)}{b:Prop}(h:PlM lo w d L C b)(a:Chg [] w w'):PlM lo w' d L C b:=by
  obtain ⟨⟨g,i,f,e,p,o,n,m,j⟩,l,k⟩:=h
  exact ⟨⟨g,i,f,e,p.q8 a,o.q8 a,n.q8 a,m.q8 a,j⟩,l.q8 a,k⟩
theorem PlM.lt{lo a:Nat}{w:World}{L:List PS}{C:List (Value×List Nat)}{b:Prop}(h:PlM lo w a L C b):lo<=a/\a<w.heap.size:=by
  obtain ⟨⟨i,j,g,f,e,_⟩,_,d⟩:=h
  exact ⟨d,e.lt⟩
def Kp(w w':World):Prop:=∀ b T l,BK w b T l->T≠29->T≠35->T≠9->BK w' b T l
theorem Kp.of{w w':World}{f lo m g:Nat}{cs l i:List Value}{d a:Value}(o:BK w f 29 cs)(n:PQ w 35 1 lo d m l)(j:PQ w 9 1 lo a g i)(h:Chg (f::(d.ownBlock.toList++a.ownBlock.toList)) w w'):Kp w w':=λb T k hk h1 h2 h3=>hk.dJ h λhm=>by
  rcases List.mem_cons.1 hm with q|q
  · exact BK.neT hk o h1 q
  · rcases List.mem_append.1 q with q|q
    · exact n.dnq hk (λe=>h2 e.symm) (Option.mem_toList.1 q)
    · exact j.dnq hk (λe=>h3 e.symm) (Option.mem_toList.1 q)
namespace Sx
section
variable {P:Program} {s:Sl} {w:World} {ty:TypeId} {x:Operand}
end
end Sx
end
section
open Go Sx Wd Fl
namespace Sx
section
variable {P:Program} {ops:Array Oper} {K:KK} {fuel:Nat} {listed:Array Bool} {n:Nat} {D:List Deferred} {s:Sl} {w:World} {ty:TypeId} {pos:String} {af:Array Edge} {d:Nat} {op:Op} {v:Value} {S:World->Prop}
end
end Sx
namespace Sx
theorem Ev.eqlStr{P:Program}{s:Sl}{w:World}{ty:TypeId}{x y:Operand}{t t':TypeId}{a b:ByteArray}(f:k6 s x=some (.string a))(e:k6 s y=some (.string b)):Ev P s (.binOp .eql t x y t') ty w (.bool (decide (a=b))) w:=λρ d pos af g hρ=>by
  have e1:=hρ x _ f
  have e2:=hρ y _ e
  have e3:(a.toList==b.toList)=decide (a=b):=by
    rw[ByteArray.toList_eq,ByteArray.toList_eq]
    by_cases h:a=b
    · subst h;simp
    · have:a.data.toList≠b.data.toList:=λq=>h (by cases a;cases b;congr 1;exact Array.ext' q)
      rw[decide_eq_false h,beq_eq_false_iff_ne.2 this]
  simp[execOp,e1,e2,eqGuard,binOp_string_eql,e3]
end Sx
end
section
open Go Sx Wd Fl
theorem bytes_spec(lo bp:Nat)(L:List PS)(C:List (Value×List Nat))(st:Prop)(bs br:Nat)(S:Sh)(w0 w:World)(hP:PlM lo w bp L C st)(hi:(bs,br,S)∈L)(g:Chg [] w0 w)(H:w0.heap.size<=lo)(hC:C.length<=100000):Ret Tryz.prog 42 [.pointer (some ⟨bp,0,none⟩),.agg [.pointer (some ⟨bs,0,none⟩),.pointer (some ⟨br,0,none⟩)].toArray] w λu w'=>u = .bool true/\(∃ v,PlM lo w' bp L (C++[(v,ahx S)]) st)/\Chg [] w0 w'/\Kp w w':=by
 obtain ⟨⟨vl,vc,vw,ws,a,e,d,b,b4⟩,h,B⟩:=hP;obtain ⟨al,cl,rfl⟩:=e.sl;obtain ⟨ac,cc,rfl⟩:=d.sl;obtain ⟨aw,cw,rfl⟩:=b.sl;have d2:w0.heap.size<=bp:=Nat.le_trans H B;have I:=(h.sh _ hi).2.2.1;have Z:=a;have Q:=d;have O:=b;have f:Chg (bp::((Value.slice ac C.length cc).ownBlock.toList++(Value.slice aw C.length cw).ownBlock.toList)) w w:=Chg.refl _ _;refine zE2 Tryz.func42 rfl ?_;refine Sr λ_ b1=>?_;refine zBh rfl rfl rfl g λb3 d8 A p D V g=>?_;have U:=Nat.le_trans f.size D;have f:=f.ta p;have h:=h.q8 p;have e:=e.q8 p;have d:=d.q8 p;have b:=b.q8 p;have a4:=zdd a.lt D;have a:=a.q8 p;refine za rfl (zz (b1 (Sr λ_ b0=>zf rfl (zl A rfl rfl ?_))));refine WL.call hasF11 rfl rfl (avj bs S _ (h.sh _ hi).1 I.wf I.ex) λv w1 h'=>?_;obtain ⟨z,x⟩:=h';have b6:=h;have e5:=a.lt;have g:=g.ta x;have f:=f.ta x;have a:=a.q8 x;have A:=A.k0 x;have h:=h.q8 x;have e:=e.q8 x;have d:=d.q8 x;have b:=b.q8 x;refine za rfl (zz (b0 (Sr λ_ a8=>zf rfl (zl A rfl rfl ?_))));refine WL.call hasF113 rfl rfl (dkq br S _ (h.sh _ hi).2.1 I.wf I.num I.ex) λv w2 h'=>?_;obtain ⟨X,k⟩:=h';have z:=z.q8 k;obtain ⟨f8,f2,rfl,a5,F,b9⟩:=X.bij;have g:=g.ta k;have f:=f.ta k;have a:=a.q8 k;have h:=h.q8 k;have e:=e.q8 k;have d:=d.q8 k;have b:=b.q8 k;refine WL.ev (Ev.toStr (l:=ahx S) rfl rfl F) rfl ?_;have h:=b6.snocC (l:=ahx S) (h.q8 (Chg.refl _ _)) z (Nat.le_refl _) oO ⟨encS_B8 S,Nat.le_trans (encS_len I.ex) oD⟩;obtain ⟨a9,c9,rfl,b8,d1,d5⟩:=z.bij;refine za rfl (zz (a8 (Sr λ_ a7=>zm rfl (zm rfl (zP rfl (zf rfl (zl a rfl rfl (zm rfl ?_))))))));refine WL.buildSlice (m:=1) (cs:=[.slice a9 (ahx S).length c9]) oD oD rfl oR rfl λc7 e2 j=>?_;have a1:=j.at_;have g:=g.trans (Chg.any j.chg);have f:=f.trans (Chg.any j.chg);have h:=h.q8 j.chg;have e:=e.q8 j.chg;have d:=d.q8 j.chg;have b:=b.q8 j.chg;have a:=a.q8 j.chg;refine WL.appQ (lo:=lo) (news:=[.slice a9 (ahx S).length c9]) (by rfl) oD (by intro c Y;change c∈[_] at Y;rw[List.mem_singleton.1 Y];rfl) rfl rfl d rfl (Sx.BK.news (show BK _ c7 35 [.slice a9 (ahx S).length c9] from a1)) (by intro q G;rw[List.mem_singleton.1 G];rfl) (by intro q G;rw[List.mem_singleton.1 G];rfl) (by have:=a.lt;omega) oO oD rfl λe4 e1 T s d4=>?_
 have h:=h.vJ d s;have e:=e.other d s oD;have b:=b.other d s oD;have a:=d.bk s a oD;have g:=d.frame s g H;have f:=f.step s (λy hy=>.inl (List.mem_cons_of_mem _ (List.mem_append_left _ hy)));have d:=T;obtain ⟨f7,f1,rfl⟩:=d.sl;refine zP rfl (zf rfl ?_);refine WL.bJ rfl rfl o1 a oS rfl λd7 t o=>?_;(try simp only[qt] at t);have g:=g.s1 o;have f:=f.s1 o;have h:=h.q9 a o an;have e:=e.q9 a o an;have d:=d.q9 a o an;have b:=b.q9 a o an;have a:=t;refine zz (a7 (Sr λ_ a6=>zm rfl (zm rfl (zP rfl (zf rfl (zl a rfl rfl (zm rfl ?_)))))));refine WL.buildSlice (m:=1) (cs:=[.string (bA (ahx S))]) oD oD rfl oR rfl λc6 e0 i=>?_;have a0:=i.at_;have g:=g.trans (Chg.any i.chg);have f:=f.trans (Chg.any i.chg);have h:=h.q8 i.chg;have e:=e.q8 i.chg;have d:=d.q8 i.chg;have b:=b.q8 i.chg;have a:=a.q8 i.chg;refine WL.appQ (lo:=lo) (news:=[.string (bA (ahx S))]) (by rfl) oD (by intro c Y;change c∈[_] at Y;rw[List.mem_singleton.1 Y];rfl) rfl rfl b rfl (Sx.BK.news (show BK _ c6 9 [.string (bA (ahx S))] from a0)) (by intro q G;rw[List.mem_singleton.1 G];rfl) (by intro q G;rw[List.mem_singleton.1 G];rfl) (by have:=a.lt;omega) oO oD rfl λe3 d9 R r d3=>?_;have h:=h.vJ b r;have e:=e.other b r oD;have d:=d.other b r oD;have a:=b.bk r a oD;have g:=b.frame r g H;have f:=f.step r (λy hy=>.inl (List.mem_cons_of_mem _ (List.mem_append_right _ hy)));have b:=R;obtain ⟨f6,f0,rfl⟩:=b.sl;refine zP rfl (zf rfl ?_);refine WL.bJ rfl rfl o1 a oS rfl λd6 t n=>?_;(try simp only[qt] at t);have g:=g.s1 n;have f:=f.s1 n;have h:=h.q9 a n an;have e:=e.q9 a n an;have d:=d.q9 a n an;have b:=b.q9 a n an;have a:=t;refine zz (a6 (Sr λ_ J=>zm rfl ?_));obtain ⟨f5,e9,c2,-,M,-⟩:=PQ.bij (h.dat _ (List.mem_append_right _ (List.mem_singleton_self _))).1;cases c2;refine WL.ev (Ev.toStr (l:=ahx S) rfl rfl M) rfl ?_;refine zm rfl ?_;refine WL.ev (Ev.eqlStr rfl rfl) rfl ?_;rw[decide_eq_true rfl];refine za rfl (zz (J ?_));refine zr (zr1 rfl rfl ?_);refine ⟨rfl,⟨_,⟨_,_,_,_,a,e,?_,(by rw[List.length_append];exact b),?_⟩,h,B⟩,g,Kp.of Z Q O f⟩
 · simpa using d
 intro b5;rw[b4 b5];simp
theorem BK.cs_eq{w:World}{b:Nat}{T:TypeId}{cs cs2:List Value}(h:BK w b T cs)(e:cs=cs2):BK w b T cs2:=e ▸ h
theorem NU.dqq{w w':World}{v:Value}{l:List Nat}{lo d p:Nat}{g:List Nat}{bad:Bool}(h:NU w v l)(hT:RdM lo w d g p bad)(e:Chg [d] w w'):NU w' v l:=by
  obtain ⟨a,c,f,_⟩:=hT
  exact h.q9 f e (by intro v b;simp only[List.mem_cons,List.not_mem_nil,or_false] at b;rcases b with rfl|rfl|rfl<;>rfl)
theorem neq_q{q n:Nat}{a:Bool}(h:a=false):decide ((q:Int)≠(n:Int))=decide (a=true\/q≠n):=by
  subst h
  refine decide_eq_decide.2 ⟨λz=>.inr λy=>z (by rw[y]),λz=>?_⟩
  rcases z with z|z
  · cases z
  · omega
theorem ebx{a:List Nat}{s:SP}{v q:Bool×List Nat×Int×Nat×Bool}(h:q.2.2.2.2=true):decV a s v q=none:=by
  unfold decV decE
  rw[if_pos]
  left
  cases hx:(rdE (decide (s.na<s.al)) a q.2.2.2.1 q.2.2.2.2).2.2.2 with
  | true=>rfl
  | false=>exact absurd ((bzx rfl hx).symm.trans h) oD
theorem decD_none{a:List Nat}{s:SP}{v:Bool×List Nat×Int×Nat×Bool}(h:v.2.2.2.2=true):d2x a s v=none:=by
  unfold d2x
  exact ebx (by rw[h];exact rdD_bad ..)
theorem dec_parts{a:List Nat}{s:SP}{k g n q lo y:Nat}{m j l w e f:Bool}{b d:List Nat}{t v:Int}(D:B8 a)
    (G:j=(rdD a k m).2.2.2.2) (B:j=false->rdD a k m=(e,b,t,g,false)) (F:l=(rdD a g j).2.2.2.2) (A:l=false->rdD a g j=(f,d,v,n,false)) (hE:rdE (decide (s.na<s.al)) a n l=(lo,y,q,w)) :
    (w=true->d2x a s (rdD a k m)=none)/\(w=false->d2x a s (rdD a k m)=decE a s (e,b,t,g,false) (f,d,v,n,false) (lo,y,q,false)/\(wd (val b)=b/\(Dy.mk e (val b) t).ok)/\wd (val d)=d/\(Dy.mk f (val d) v).ok):=by
  by_cases i:j=true
  · have h:l=true:=by rw[F,i];exact rdD_bad ..
    refine ⟨λ_=>decD_none (G.symm.trans i),λz=>?_⟩
    exact absurd ((bzx hE z).symm.trans h) oD
  have i:j=false:=by simpa using i
  have u:=B i
  have r:=dij D (p:=k) (bad:=m) (by rw[u])
  rw[u] at r
  by_cases h:l=true
  · refine ⟨λ_=>?_,λz=>absurd ((bzx hE z).symm.trans h) oD⟩
    rw[u]
    exact ebx (by rw[<- i];exact F.symm.trans h)
  have h:l=false:=by simpa using h
  have x:=A h
  have o:=dij D (p:=g) (bad:=j) (by rw[x])
  rw[x] at o
  subst i h
  have C:d2x a s (rdD a k m)=decE a s (e,b,t,g,false) (f,d,v,n,false) (lo,y,q,w):=by
    rw[u]
    show decV a s (e,b,t,g,false) (rdD a g false)=_
    rw[x]
    show decE a s _ _ (rdE (decide (s.na<s.al)) a n false)=_
    rw[hE]
  refine ⟨λz=>?_,λz=>?_⟩
  · rw[C,z];exact if_pos (.inl rfl)
  · subst z;exact ⟨C,r,o⟩
theorem rdK6{a:List Nat}{n m l k j i h g f e d b:Nat}{t s r q p o:Bool}(z:rdC a 0 false=(n,h,t))(y:rdC a h t=(m,g,s))(x:rdC a g s=(l,f,r))(w:rdC a f r=(k,e,q))(v:rdC a e q=(j,d,p))(u:rdC a d p=(i,b,o)):rdK a 6=([n,m,l,k,j,i],b,o):=by
  simp[rdK,z,y,x,w,v,u]
theorem d8x{s:SP}(h:s.le 1099511627776):(Sh.mk s Dy.zero Dy.zero 0 0).fin<(s.mi:Int)+s.pl↔¬cZ s:=by
  obtain ⟨g,f,e,d,b,a⟩:=h
  unfold cZ Sh.fin
  dsimp only
  omega
theorem someR_spec(b:Nat)(s:SP)(q p o n i h g f:Value)(w:World)(e:BK w b 148 [.int .i64 (s.na:Int),.int .i64 (s.up:Int),.int .i64 (s.dn:Int),.int .i64 (s.mi:Int),.int .i64 (s.pl:Int),.int .i64 (s.al:Int),q,p,o,n,i,h,g,f])(m:s.le 1099511627776):Ret Tryz.prog 89 [.pointer (some ⟨b,0,none⟩)] w λu w'=>u = .bool (decide (s.na<s.al))/\Chg [] w w':=by
 obtain ⟨A,z,y,x,v,t⟩:=m;have a:=crf w;refine zE1 Tryz.func89 rfl ?_;refine Sr λ_ l=>za rfl (zz (l (zc λ_ k=>?_)));refine CW.jQ dZ oR λr j d=>?_;have a:=a.ta d;have e:=e.q8 d;refine ym rfl (yP rfl (yf rfl (yf rfl ?_)));refine WS.ev (Ev.load rfl rfl (e.at_ rfl)) rfl ?_;refine ym rfl (yP rfl (yf rfl (yf rfl ?_)));refine WS.ev (Ev.load rfl rfl (e.at_ rfl)) rfl ?_;refine WS.ev (Ev.gtr rfl rfl) rfl ?_;refine ya rfl ?_;refine WS.nil (j _ _ ?_);refine k ?_;refine zr (zr1 rfl rfl ?_);refine ⟨congrArg Value.bool (decide_eq_decide.2 ?_),a⟩;omega
theorem dkj(a:Option Addr)(t:List Nat)(c:Nat)(w:World)(hr:RW w a (t.map u8v))(i1:t.length<=c)(n8 : ∀ ad,a=some ad->t≠[]->ad.block<w.heap.size)(hB:B8 t)(hL:t.length<=140737488355328):Ret Tryz.prog 28 [.slice a t.length c] w λu w'=>((∃ S b,apx t=some S/\u = .tuple [.pointer (some ⟨b,0,none⟩),.int .i64 0].toArray/\ShM 148 w' b S/\w.heap.size<=b/\S.wf/\0<=S.pln)\/(apx t=none/\u = .tuple [.pointer none,.int .i64 210].toArray))/\Chg [] w w':=by
  have f:=crf w;refine zE1 Tryz.func28 rfl ?_;refine Sr λ_ l6=>za rfl (za rfl (zz (l6 ?_)));refine Sq λ_ l5 _ l1=>?_;refine zm rfl ?_;refine WL.ev (Ev.build (vs:=_) (cs:=[_,_,_]) rfl rfl) rfl ?_;refine zBh rfl rfl rfl f λo r3 c3 n7 m5 d0 f=>?_;refine za rfl ?_;refine WL.nil (l1 _ _ _ ?_);have h:RdM (o+1) _ o t 0 false:=⟨a,c,c3,hr.q8 f,Nat.zero_le _,i1,Nat.lt_succ_self _,λad e m0=>by have:=n8 ad e m0;omega⟩;have m3:=c3.lt;refine l5 _ _ _ ?_;refine Sq λ_ l4 _ l0=>?_;refine WL.ev (Ev.build (vs:=_) (cs:=[_,_,_,_,_,_,_,_,_,_,_,_,_,_]) rfl rfl) rfl ?_;refine zBh rfl rfl rfl f λY r2 d c4 m4 c9 f=>?_;have h:=h.q8 c4;refine za rfl ?_;refine WL.nil (l0 _ _ _ ?_);have a4:o+1<=Y:=by omega
  refine l4 _ _ _ ?_;refine Sr λ_ l3=>zm rfl (zm rfl ?_);refine WL.call hasF86 rfl rfl (atx (o+1) o 0 t false _ h hL hB) λv w1 x=>?_;obtain ⟨rfl,h,p⟩:=x;have h6:=cfx t 0 false;generalize hk1:rdC t 0 false=R at *;obtain ⟨n1,p1,d1⟩:=R;dsimp only at h h6;dsimp only;have d:=d.kq p;have f:=f.step p (λy J=>.inr (by rw[List.mem_singleton.1 J];omega));refine zP rfl (zf rfl (zf rfl ?_));refine WL.bJ rfl rfl o1 d oS rfl λr1 g b2=>?_;(try simp only[qt] at g);have f:=f.s1 b2;have h:=h.q9 d b2 an;have d:=g;refine zz (l3 (Sr λ_ l2=>zm rfl (zm rfl ?_)));refine WL.call hasF86 rfl rfl (atx (o+1) o p1 t d1 _ h hL hB) λv w2 x=>?_;obtain ⟨rfl,h,p⟩:=x;have h5:=cfx t p1 d1;generalize hk2:rdC t p1 d1=R at *;obtain ⟨n2,p2,d2⟩:=R;dsimp only at h h5;dsimp only;have d:=d.kq p;have f:=f.step p (λy J=>.inr (by rw[List.mem_singleton.1 J];omega));refine zP rfl (zf rfl (zf rfl ?_));refine WL.bJ rfl rfl o1 d oS rfl λr0 g b1=>?_;(try simp only[qt] at g);have f:=f.s1 b1;have h:=h.q9 d b1 an;have d:=g;refine zz (l2 (Sr λ_ g1=>zm rfl (zm rfl ?_)));refine WL.call hasF86 rfl rfl (atx (o+1) o p2 t d2 _ h hL hB) λv w3 x=>?_;obtain ⟨rfl,h,p⟩:=x;have h4:=cfx t p2 d2;generalize hk3:rdC t p2 d2=R at *;obtain ⟨n3,p3,d3⟩:=R;dsimp only at h h4;dsimp only;have d:=d.kq p;have f:=f.step p (λy J=>.inr (by rw[List.mem_singleton.1 J];omega));refine zP rfl (zf rfl (zf rfl ?_));refine WL.bJ rfl rfl o1 d oS rfl λq7 g b0=>?_;(try simp only[qt] at g);have f:=f.s1 b0;have h:=h.q9 d b0 an;have d:=g;refine zz (g1 (Sr λ_ g0=>zm rfl (zm rfl ?_)));refine WL.call hasF86 rfl rfl (atx (o+1) o p3 t d3 _ h hL hB) λv w4 x=>?_;obtain ⟨rfl,h,p⟩:=x;have h0:=cfx t p3 d3;generalize hk4:rdC t p3 d3=R at *;obtain ⟨n4,p4,d4⟩:=R;dsimp only at h h0;dsimp only;have d:=d.kq p;have f:=f.step p (λy J=>.inr (by rw[List.mem_singleton.1 J];omega));refine zP rfl (zf rfl (zf rfl ?_));refine WL.bJ rfl rfl o1 d oS rfl λq6 g a9=>?_;(try simp only[qt] at g);have f:=f.s1 a9;have h:=h.q9 d a9 an;have d:=g;refine zz (g0 (Sr λ_ f9=>zm rfl (zm rfl ?_)));refine WL.call hasF86 rfl rfl (atx (o+1) o p4 t d4 _ h hL hB) λv w5 x=>?_;obtain ⟨rfl,h,p⟩:=x;have g9:=cfx t p4 d4;generalize hk5:rdC t p4 d4=R at *;obtain ⟨n5,p5,d5⟩:=R
  dsimp only at h g9;dsimp only;have d:=d.kq p;have f:=f.step p (λy J=>.inr (by rw[List.mem_singleton.1 J];omega));refine zP rfl (zf rfl (zf rfl ?_));refine WL.bJ rfl rfl o1 d oS rfl λq5 g a8=>?_;(try simp only[qt] at g);have f:=f.s1 a8;have h:=h.q9 d a8 an;have d:=g;refine zz (f9 ?_);refine Sq λ_ f8 _ e3=>?_;refine zm rfl (zm rfl ?_);refine WL.call hasF86 rfl rfl (atx (o+1) o p5 t d5 _ h hL hB) λv w6 x=>?_;obtain ⟨rfl,h,p⟩:=x;have g5:=cfx t p5 d5;generalize hk6:rdC t p5 d5=R at *;obtain ⟨n6,p6,d6⟩:=R;dsimp only at h g5;dsimp only;have d:=d.kq p;have f:=f.step p (λy J=>.inr (by rw[List.mem_singleton.1 J];omega));refine zP rfl (zf rfl (zf rfl ?_));refine WL.bJ rfl rfl o1 d oS rfl λq4 g a7=>?_;(try simp only[qt] at g);have f:=f.s1 a7;have h:=h.q9 d a7 an;have d:=g;refine WL.nil (e3 _ _ _ ?_);have i3:=rdK6 hk1 hk2 hk3 hk4 hk5 hk6;obtain ⟨s,hs⟩ : ∃ s:SP,s=auj [n1,n2,n3,n4,n5,n6]:=⟨_,rfl⟩;have I:s.le 1099511627776:=by rw[hs];exact ⟨h6,h5,h4,h0,g9,g5⟩
  have d:=BK.cs_eq (b:=Y) (T:=148) (cs:=[.int .i64 (n1:Int),.int .i64 (n2:Int),.int .i64 (n3:Int),.int .i64 (n4:Int),.int .i64 (n5:Int),.int .i64 (n6:Int),.bool false,.slice none 0 0,.int .i64 0,.bool false,.slice none 0 0,.int .i64 0,.float .f64 0,.float .f64 0]) (cs2:=[.int .i64 (s.na:Int),.int .i64 (s.up:Int),.int .i64 (s.dn:Int),.int .i64 (s.mi:Int),.int .i64 (s.pl:Int),.int .i64 (s.al:Int),.bool false,.slice none 0 0,.int .i64 0,.bool false,.slice none 0 0,.int .i64 0,.float .f64 0,.float .f64 0]) d (by rw[hs];rfl);obtain ⟨v0,u9,u7,u6,u5,u4⟩:=id I;refine f8 _ _ _ ?_;refine Sr λ_ f7=>zm rfl (zP rfl (zf rfl ?_));refine WL.ev (Ev.fZ (cs:=[.int .i64 (s.na:Int),.int .i64 (s.up:Int),.int .i64 (s.dn:Int),.int .i64 (s.mi:Int),.int .i64 (s.pl:Int),.int .i64 (s.al:Int)]) rfl rfl d rfl rfl) rfl ?_;refine WL.call hasF87 rfl rfl (btx s _ ⟨by omega,by omega,by omega,by omega,by omega,by omega⟩) λv w7 x=>?_;obtain ⟨rfl,p⟩:=x;have f:=f.ta p;have d:=d.k0 p;have h:=h.q8 p;refine za rfl (zz (f7 (zc λ_ f6=>?_)));refine CW.oX 63 (decide (d6=true\/¬cZ s)) ?_ ?_
  · obtain ⟨t3,t1,b6,l9,-⟩:=id h;refine zS λ_ c2=>zm rfl (zP rfl (zf rfl ?_));refine WL.ev (Ev.load (v:=.bool d6) rfl rfl (b6.at_ rfl)) rfl ?_;refine zm rfl ?_;refine zb ?_ ?_<;>intro m8<;>try simp only[qs] at m8
    · refine zv rfl (zv rfl (zt rfl rfl (zz (c2 ?_))));refine ⟨rfl,rfl,j0.g8 rfl ?_ ?_⟩
      · first|(simp_all;done)|(refine decide_eq_decide.2 ?_;simp_all;done)|(refine (decide_eq_true ?_).symm;simp_all;done)|(refine (decide_eq_false ?_).symm;simp_all;done)
      exact SMg
    refine zw rfl (zm rfl (zw rfl (zT rfl (ze rfl rfl (zz (c2 ?_))))));refine ⟨rfl,rfl,j0.g8 rfl ?_ ?_⟩
    · first|(simp_all;done)|(refine decide_eq_decide.2 ?_;simp_all;done)|(refine (decide_eq_true ?_).symm;simp_all;done)|(refine (decide_eq_false ?_).symm;simp_all;done)
    exact SMg
  refine zy rfl ?_ ?_<;>intro c8<;>try simp only[qs] at c8
  · have h1:d6=true\/¬cZ s:=by simpa using c8
    have hD:apx t=none:=by unfold apx;rw[i3];exact if_pos (by rw[d8x (by rw[<- hs];exact I)];rw[hs] at h1;exact h1)
    refine Sr λ_ f5=>za rfl (za rfl (zz (f5 ?_)));refine zr (zr2 rfl rfl rfl ?_);refine ⟨.inr ⟨hD,rfl⟩,f⟩
  have h1 : ¬(d6=true\/¬cZ s):=by simpa using c8
  have h7:cZ s:=Classical.byContradiction λz=>h1 (.inr z);have o0:apx t=d2x t s (rdD t p6 d6):=by unfold apx;rw[i3];dsimp only;rw[<- hs];exact if_neg (by rw[d8x I];exact h1)
  refine zkk (f6 (Sr λ_ f4=>zm rfl (zm rfl ?_)));refine WL.call hasF88 rfl rfl (dix (o+1) o p6 t d6 _ h hL hB (Nat.le_trans a4 (Nat.le_of_lt d.lt))) λv w8 x=>?_;obtain ⟨a2,n,j,H,F,d7,rfl,k,s6,h,n0,l8,p⟩:=x;have v4:=k.one;have d:=d.kq p;have f:=f.step p (λy J=>.inr (by rw[List.mem_singleton.1 J];omega));refine zP rfl (zf rfl ?_);refine zss rfl rfl ao d rfl λq3 g Z=>?_;(try simp only[qt] at g);have f:=f.s1 Z;have h:=h.q9 d Z an;have k:=k.q9 d Z an;have d:=g;refine zz (f4 (Sr λ_ f3=>zm rfl (zm rfl ?_)));refine WL.call hasF88 rfl rfl (dix (o+1) o F t d7 _ h hL hB (Nat.le_trans a4 (Nat.le_of_lt d.lt))) λv w9 x=>?_;obtain ⟨a1,l,i,G,A,d8,rfl,r,s5,b4,m9,l7,p⟩:=x;have k:=k.dqq h p;have h:=b4;have v3:=r.one;have d:=d.kq p;have f:=f.step p (λy J=>.inr (by rw[List.mem_singleton.1 J];omega));refine zP rfl (zf rfl ?_);refine zss rfl rfl ao d rfl λq0 g U=>?_;(try simp only[qt] at g);have f:=f.s1 U;have h:=h.q9 d U an;have k:=k.q9 d U an;have r:=r.q9 d U an;have d:=g;refine zz (f3 (Sr λ_ f2=>zm rfl ?_));refine WL.call hasF89 rfl rfl (someR_spec Y s _ _ _ _ _ _ _ _ _ d I) λv u0 x=>?_;obtain ⟨rfl,p⟩:=x;have f:=f.ta p;have d:=d.k0 p;have h:=h.q8 p;have k:=k.q8 p;have r:=r.q8 p;refine za rfl (zz (f2 ?_));refine CW.anj (λD s' w'=>D=[]/\(∃ B C q bd,rdE (decide (s.na<s.al)) t A d8=(B,C,q,bd)/\B<18446744073709551616/\C<18446744073709551616/\RdM (o+1) w' o t q bd/\BK w' Y 148 [.int .i64 (s.na:Int),.int .i64 (s.up:Int),.int .i64 (s.dn:Int),.int .i64 (s.mi:Int),.int .i64 (s.pl:Int),.int .i64 (s.al:Int),.bool n,a2,.int .i64 H,.bool l,a1,.int .i64 G,.float .f64 B,.float .f64 C])/\NU w' a2 j/\NU w' a1 i/\Chg [] w w'/\j0 [(0,.slice a t.length c),(4,.pointer (some ⟨o,0,none⟩)),(5,.pointer (some ⟨Y,0,none⟩)),(7,.bool (decide (s.na<s.al)))] s') ?_ ?_
  · refine Sr λ_ f1=>zm rfl (zz (f1 ?_));refine zy rfl ?_ ?_<;>intro c7<;>try simp only[qs] at c7
    · have a3:s.na<s.al:=by simpa using c7
      refine Sr λ_ f0=>zm rfl (zm rfl ?_);refine WL.call hasF91 rfl rfl (bcj (o+1) o _ t _ 8 _ h hL hB oD) λv t9 x=>?_;obtain ⟨rfl,b4,p⟩:=x;have k:=k.dqq h p;have r:=r.dqq h p;have h:=b4;have h9:=csx hB A d8 8 oD;generalize hR1:rdN t A d8 8=R1 at *;obtain ⟨m1,q1,x1⟩:=R1;dsimp only at h9;dsimp only at h;dsimp only;have d:=d.kq p;have f:=f.step p (λy J=>.inr (by rw[List.mem_singleton.1 J];omega));refine WL.call hasF90 rfl rfl (avq _ _) λv w12 x=>?_;obtain ⟨rfl,rfl⟩:=x;rw[Int.toNat_natCast];refine zP rfl (zf rfl ?_);refine WL.bJ rfl rfl o1 d oS rfl λp9 g O=>?_;(try simp only[qt] at g);have f:=f.s1 O;have h:=h.q9 d O an;have k:=k.q9 d O an;have r:=r.q9 d O an;have d:=g;refine zz (f0 (zS λ_ e0=>zm rfl (zm rfl ?_)));refine WL.call hasF91 rfl rfl (bcj (o+1) o _ t _ 8 _ h hL hB oD) λv t8 x=>?_;obtain ⟨rfl,b4,p⟩:=x;have k:=k.dqq h p;have r:=r.dqq h p;have h:=b4;have h8:=csx hB q1 x1 8 oD;generalize hR2:rdN t q1 x1 8=R2 at *;obtain ⟨m2,q2,x2⟩:=R2;dsimp only at h8;dsimp only at h;dsimp only;have d:=d.kq p;have f:=f.step p (λy J=>.inr (by rw[List.mem_singleton.1 J];omega));refine WL.call hasF90 rfl rfl (avq _ _) λv t7 x=>?_;obtain ⟨rfl,rfl⟩:=x;rw[Int.toNat_natCast];refine zP rfl (zf rfl ?_);refine WL.bJ rfl rfl o1 d oS rfl λo9 g M=>?_;(try simp only[qt] at g);have f:=f.s1 M;have h:=h.q9 d M an;have k:=k.q9 d M an;have r:=r.q9 d M an;have d:=g;refine zz (e0 ?_);refine ⟨rfl,⟨m1,m2,q2,x2,?_,h9,h8,h,?_⟩,k,r,f,by (repeat (first|exact j0.nil|refine j0.cons rfl ?_))⟩
      · unfold rdE;rw[if_pos (decide_eq_true a3),hR1];dsimp only;rw[hR2]
      exact d
    have a3 : ¬s.na<s.al:=by simpa using c7
    refine zkk ?_;refine ⟨rfl,⟨0,0,A,d8,?_,by decide,by decide,h,d⟩,k,r,f,by (repeat (first|exact j0.nil|refine j0.cons rfl ?_))⟩;unfold rdE;rw[if_neg (by simpa using a3)]
  rintro _ s' wJ ⟨rfl,⟨B,C,q,bd,hE,a5,a6,h,d⟩,k,r,f,g2⟩;refine CW.sub g2 ?_;have i7:=d.lt;obtain ⟨hX,hY⟩:=dec_parts hB n0 l8 m9 l7 hE;rw[<- o0] at hX hY;have s7:=h.le;refine zc λ_ e9=>?_;refine CW.oX 101 (decide (bd=true\/q≠t.length)) ?_ ?_
  · obtain ⟨t2,t0,b6,l9,-⟩:=id h;refine zS λ_ c1=>zm rfl (zP rfl (zf rfl ?_));refine WL.ev (Ev.load (v:=.bool bd) rfl rfl (b6.at_ rfl)) rfl ?_;refine zm rfl ?_;refine zb ?_ ?_<;>intro m7<;>try simp only[qs] at m7
    · refine zv rfl (zv rfl (zv rfl (zv rfl (zv rfl (zv rfl (zv rfl (zt rfl rfl (zz (c1 ?_)))))))));refine ⟨rfl,rfl,j0.g8 rfl ?_ ?_⟩
      · first|(simp_all;done)|exact neq_q oA
      exact SMg
    refine zw rfl (zm rfl (zw rfl (zP rfl (zw rfl (zf rfl (zw rfl ?_))))));refine WL.ev (Ev.load (v:=.int .i64 (q:Int)) rfl rfl (b6.at_ rfl)) rfl ?_;refine zw rfl (zm rfl (zw rfl (zn rfl (zw rfl (zN rfl rfl (ze rfl rfl (zz (c1 ?_))))))));refine ⟨rfl,rfl,j0.g8 rfl ?_ ?_⟩
    · first|(simp_all;done)|exact neq_q oA
    exact SMg
  refine zy rfl ?_ ?_<;>intro c6<;>try simp only[qs] at c6
  · have h2:bd=true\/q≠t.length:=by simpa using c6
    have hD:apx t=none:=by
      cases b3:bd with
      | true=>exact hX b3
      | false=>
        rw[(hY b3).1];exact if_pos (.inr (.inl (by dsimp only;have:=h2.resolve_left (λy=>absurd (b3.symm.trans y) oD);omega)))
    refine Sr λ_ e8=>za rfl (za rfl (zz (e8 ?_)));refine zr (zr2 rfl rfl rfl ?_);refine ⟨.inr ⟨hD,rfl⟩,f⟩
  have h2 : ¬(bd=true\/q≠t.length):=by simpa using c6
  have b3:bd=false:=Bool.eq_false_iff.2 λz=>h2 (.inl z);have v2:q=t.length:=Classical.byContradiction λz=>h2 (.inr z);obtain ⟨hZ,hV,hQ⟩:=hY b3;have g4:0<=(oQ s (n,j,H,F,false) (l,i,G,A,false) B C).pln:=by show (0:Int)<=(s.al:Int)-s.na-s.up-s.dn-s.mi-s.pl;have:=h7.1;omega
  refine zkk (e9 (Sr λ_ e7=>zm rfl ?_));refine WL.call hasF92 rfl rfl (r21sums_spec Y (oQ s (n,j,H,F,false) (l,i,G,A,false) B C) _ ⟨a2,a1,d,(by rw[show (oQ s (n,j,H,F,false) (l,i,G,A,false) B C).V.m=val j from rfl,hV.1];exact k),(by rw[show (oQ s (n,j,H,F,false) (l,i,G,A,false) B C).Q.m=val i from rfl,hQ.1];exact r)⟩ I hV.2 hQ.2 g4) λv t6 x=>?_;obtain ⟨rfl,p⟩:=x;have f:=f.ta p;have d:=d.k0 p;have k:=k.q8 p;have r:=r.q8 p;refine za rfl (zz (e7 ?_));refine CW.azx 9 (decide (¬s.na<s.al\/vX (oQ s (n,j,H,F,false) (l,i,G,A,false) B C))) ?_ ?_
  · intro X;refine zS λ_ b9=>zm rfl (zT rfl (zm rfl ?_));refine zb ?_ ?_<;>intro i0<;>try simp only[qs] at i0
    · refine zv rfl (zv rfl (zt rfl rfl (za rfl (zz (b9 ?_)))));refine ⟨rfl,X,j0.g8 rfl ?_ ?_⟩
      · first|(simp_all;done)|(refine decide_eq_decide.2 ?_;simp_all;done)|(refine (decide_eq_true ?_).symm;simp_all;done)|(refine (decide_eq_false ?_).symm;simp_all;done)
      exact SMg
    have a3:s.na<s.al:=by simpa using i0
    refine zw rfl (zm rfl (zw rfl ?_));refine WL.call hasF93 rfl rfl (r21ends_spec Y (oQ s (n,j,H,F,false) (l,i,G,A,false) B C) _ ⟨a2,a1,d,(by rw[show (oQ s (n,j,H,F,false) (l,i,G,A,false) B C).V.m=val j from rfl,hV.1];exact k),(by rw[show (oQ s (n,j,H,F,false) (l,i,G,A,false) B C).Q.m=val i from rfl,hQ.1];exact r)⟩ I a5 a6 h7 a3) λv t5 x=>?_;obtain ⟨rfl,p⟩:=x;have X:=X.ta p;refine ze rfl rfl (za rfl (zz (b9 ?_)));refine ⟨rfl,X,j0.g8 rfl ?_ ?_⟩
    · first|(simp_all;done)|(refine decide_eq_decide.2 ?_;simp_all;done)|(refine (decide_eq_true ?_).symm;simp_all;done)|(refine (decide_eq_false ?_).symm;simp_all;done)
    exact SMg
  intro wM X;have f:=f.ta X;have d:=d.k0 X;have k:=k.q8 X;have r:=r.q8 X;refine zc λ_ e6=>?_;refine CW.oX 115 (decide (¬sQ (oQ s (n,j,H,F,false) (l,i,G,A,false) B C)\/¬(¬s.na<s.al\/vX (oQ s (n,j,H,F,false) (l,i,G,A,false) B C)))) ?_ ?_
  · refine zS λ_ b8=>zm rfl (zT rfl (zm rfl ?_));refine zb ?_ ?_<;>intro m6<;>try simp only[qs] at m6
    · refine zv rfl (zv rfl (zt rfl rfl (zz (b8 ?_))));refine ⟨rfl,rfl,j0.g8 rfl ?_ ?_⟩
      · first|(simp_all;done)|(by_cases hsx:sQ (oQ s (n,j,H,F,false) (l,i,G,A,false) B C)<;>by_cases hex:(¬s.na<s.al\/vX (oQ s (n,j,H,F,false) (l,i,G,A,false) B C))<;>simp[hsx,hex]<;>simp_all;done)|(by_cases hsx:sQ (oQ s (n,j,H,F,false) (l,i,G,A,false) B C)<;>by_cases hex:(¬s.na<s.al\/vX (oQ s (n,j,H,F,false) (l,i,G,A,false) B C))<;>simp_all)
      exact SMg
    refine zw rfl (zm rfl (zw rfl (zT rfl (ze rfl rfl (zz (b8 ?_))))));refine ⟨rfl,rfl,j0.g8 rfl ?_ ?_⟩
    · first|(simp_all;done)|(by_cases hsx:sQ (oQ s (n,j,H,F,false) (l,i,G,A,false) B C)<;>by_cases hex:(¬s.na<s.al\/vX (oQ s (n,j,H,F,false) (l,i,G,A,false) B C))<;>simp[hsx,hex]<;>simp_all;done)|(by_cases hsx:sQ (oQ s (n,j,H,F,false) (l,i,G,A,false) B C)<;>by_cases hex:(¬s.na<s.al\/vX (oQ s (n,j,H,F,false) (l,i,G,A,false) B C))<;>simp_all)
    exact SMg
  refine zy rfl (λc5=>?_) λc5=>?_
  · skip;have h3 : ¬sQ (oQ s (n,j,H,F,false) (l,i,G,A,false) B C)\/¬(¬s.na<s.al\/vX (oQ s (n,j,H,F,false) (l,i,G,A,false) B C)):=of_decide_eq_true c5;have hD:apx t=none:=by
      rw[hZ];refine if_pos ?_;rcases h3 with z|z
      · exact .inr (.inr (.inl z))
      exact .inr (.inr (.inr ⟨Classical.byContradiction λy=>z (.inl y),λy=>z (.inr y)⟩))
    refine Sr λ_ e5=>za rfl (za rfl (zz (e5 ?_)));refine zr (zr2 rfl rfl rfl ?_);refine ⟨.inr ⟨hD,rfl⟩,f⟩
  skip;have h3 : ¬(¬sQ (oQ s (n,j,H,F,false) (l,i,G,A,false) B C)\/¬(¬s.na<s.al\/vX (oQ s (n,j,H,F,false) (l,i,G,A,false) B C))):=of_decide_eq_false c5;refine zkk (e6 (Sr λ_ e4=>zm rfl (za rfl (za rfl (zz (e4 ?_))))));refine zr (zr2 rfl rfl rfl ?_);refine ⟨.inl ⟨(oQ s (n,j,H,F,false) (l,i,G,A,false) B C),Y,?_,rfl,⟨a2,a1,d,(by rw[show (oQ s (n,j,H,F,false) (l,i,G,A,false) B C).V.m=val j from rfl,hV.1];exact k),(by rw[show (oQ s (n,j,H,F,false) (l,i,G,A,false) B C).Q.m=val i from rfl,hQ.1];exact r)⟩,by omega,⟨I,hV.2,hQ.2,a5,a6⟩,?_⟩,f⟩
  · rw[hZ];exact if_neg (λz=>h3 (by
      rcases z with z|z|z|z
      · cases z
      · dsimp only at z;omega
      · exact .inl z
      exact .inr (λy=>y.elim (λy=>y z.1) (λy=>z.2 y))))
  exact g4
def atP(n:Int)(m:Nat):Nat:=(if n<0 then -(n+1) else n).toNat%m
theorem atP_lt(n:Int){m:Nat}(h:0<m):atP n m<m:=Nat.mod_lt _ h
theorem Kp.refl(w:World):Kp w w:=λb T l h _ _ _=>h
theorem Kp.trans{w w' a:World}(h:Kp w w')(g:Kp w' a):Kp w a:=λb T l hb h1 h2 h3=>g b T l (h b T l hb h1 h2 h3) h1 h2 h3
theorem Kp.q8{w w' a:World}(h:Kp w w')(d:Chg [] w' a):Kp w a:=λb T l hb h1 h2 h3=>(h b T l hb h1 h2 h3).q8 d
theorem at_spec(lo p:Nat)(L:List PS)(C:List (Value×List Nat))(r:Prop)(n:Int)(w:World)(y:PlM lo w p L C r)(H : -9223372036854775808<=n/\n<=9223372036854775807)(I:0<L.length)(z:L.length<=1000):Ret Tryz.prog 29 [.pointer (some ⟨p,0,none⟩),.int .i64 n] w λu w'=>u = .int .i64 (atP n L.length:Nat)/\Chg [] w w':=by
 obtain ⟨⟨D,F,B,A,f,l,x,t,s⟩,G,m⟩:=id y;obtain ⟨q,o,rfl⟩:=l.sl;have e:=crf w;refine zE2 Tryz.func29 rfl ?_;refine Sr λ_ k=>za rfl (zz (k (zc λ_ d=>Sr λ_ j=>zm rfl (zL rfl rfl (zz (j ?_))))));refine zy rfl ?_ ?_<;>intro b<;>try simp only[qs] at b
 ·have a:n<0:=b
  refine zR λ_ g=>?_;refine zm rfl ?_;refine WL.ev (Ev.kQ rfl rfl oO) rfl ?_;refine WL.ev (Ev.bpx rfl oO) rfl ?_;refine za rfl ?_;refine WL.nil (g _ _ _ (d ?_));refine Sr λ_ i=>zm rfl (zm rfl (zP rfl (zf rfl ?_)));refine WL.ev (Ev.load (v:=.slice q L.length o) rfl rfl (f.at_ rfl)) rfl ?_;refine zn rfl ?_;refine WL.ev (Ev.dhq rfl rfl oO oO) rfl ?_;refine za rfl (zz (i ?_));refine zr (zr1 rfl rfl ?_);refine ⟨?_,e⟩;unfold atP;rw[if_pos a,Int.natCast_emod,Int.toNat_of_nonneg oO]
 have a : ¬n<0:=by have:=b;omega
 refine zkk (d (Sr λ_ h=>zm rfl (zm rfl (zP rfl (zf rfl ?_)))));refine WL.ev (Ev.load (v:=.slice q L.length o) rfl rfl (f.at_ rfl)) rfl ?_;refine zn rfl ?_;refine WL.ev (Ev.dhq rfl rfl oO oO) rfl ?_;refine za rfl (zz (h ?_));refine zr (zr1 rfl rfl ?_);refine ⟨?_,e⟩;unfold atP;rw[if_neg a,Int.natCast_emod,Int.toNat_of_nonneg oO]
theorem cgj(lo bp:Nat)(L:List PS)(C:List (Value×List Nat))(st:Prop)(x y:Nat)(S:Sh)(ok oo ow z A a5 o p:Int)(ox:Nat)(F G:Value)(D w:World)(r:GW D)(j:PlM lo w bp L C st)(hi:(x,y,S)∈L)(d:Chg [] D w)(b1:D.heap.size<=lo)(c4:C.length<=100000)(c6:F.oneCell'=true)(c7:G.oneCell'=true):Ret Tryz.prog 9 [.pointer (some ⟨bp,0,none⟩),.agg [.pointer (some ⟨x,0,none⟩),.pointer (some ⟨y,0,none⟩)].toArray,.agg [.int .i64 ok,.int .i64 oo,.int .i64 ow,.float .f64 ox,F,.int .i64 z,.int .i64 A,.int .i64 a5,.int .i64 o,.int .i64 p,G].toArray] w λu w'=>u = .bool true/\(∃ v,PlM lo w' bp L (C++[(v,ahx S)]) st)/\Chg [] D w'/\Kp w w':=by
 obtain ⟨h,f,n,e2,-⟩:=j.s.sh _ hi;have g:=Kp.refl w;refine zE3 Tryz.func9 rfl ?_;refine Sr λ_ b0=>?_;refine zBh rfl rfl rfl d λb4 d0 b m c8 Z d=>?_;have j:=j.q8 m;have h:=h.q8 m;have f:=f.q8 m;have g:=g.q8 m;refine zBh rfl rfl rfl d λb5 c9 e l a0 Y d=>?_;have j:=j.q8 l;have h:=h.q8 l;have f:=f.q8 l;have g:=g.q8 l;have a2:=zdd b.lt a0;have b:=b.k0 l;refine za rfl (zz (b0 (Sr λ_ a9=>zf rfl (zl b rfl rfl (zf rfl (zl e rfl rfl (zf rfl ?_)))))));refine WL.ev (Ev.fZ (cs:=[.int .i64 o,.int .i64 p]) rfl rfl e rfl rfl) rfl ?_;refine WL.call hasF23 rfl rfl (ddj x S z o p _ h n.wf (r.q8 d)) λv w1 k=>?_;obtain ⟨⟨xa,ea,rfl,b8⟩,a⟩:=k;have d:=d.ta a;have b:=b.k0 a;have e:=e.k0 a;have j:=j.q8 a;have h:=h.q8 a;have f:=f.q8 a;have g:=g.q8 a;refine zm rfl (zx rfl rfl (zx rfl rfl (za rfl (za rfl (zz (a9 (Sr λ_ a8=>zf rfl (zl b rfl rfl (zf rfl (zl e rfl rfl (zf rfl ?_)))))))))));refine WL.ev (Ev.fZ (cs:=[.int .i64 o,.int .i64 p]) rfl rfl e rfl rfl) rfl ?_;refine WL.call hasF33 rfl rfl (shMean_spec x S z o p _ h n.wf (r.q8 d) n.p0.2.2.1) λv w2 k=>?_;obtain ⟨⟨xb,eb,rfl,b7⟩,a⟩:=k;have d:=d.ta a;have b:=b.k0 a;have e:=e.k0 a;have j:=j.q8 a;have h:=h.q8 a;have f:=f.q8 a;have g:=g.q8 a;refine zm rfl (zx rfl rfl (zx rfl rfl (za rfl (za rfl (zz (a8 (Sr λ_ a7=>zf rfl (zl b rfl rfl (zf rfl (zl e rfl rfl (zf rfl (zl e rfl rfl (zf rfl ?_)))))))))))));refine WL.ev (Ev.fZ (cs:=[.int .i64 o,.int .i64 p]) rfl rfl e rfl rfl) rfl ?_;refine WL.call hasF24 rfl rfl (ddq x S A z o p _ h n.wf (r.q8 d)) λv w3 k=>?_;obtain ⟨⟨xc,ec,rfl,b6⟩,a⟩:=k;have d:=d.ta a;have b:=b.k0 a;have e:=e.k0 a;have j:=j.q8 a;have h:=h.q8 a;have f:=f.q8 a;have g:=g.q8 a;refine zm rfl (zx rfl rfl (zx rfl rfl (za rfl (za rfl (zz (a7 (Sr λ_ a6=>zf rfl (zl b rfl rfl ?_))))))));refine WL.call hasF34 rfl rfl (Least_spec x S _ h n.wf (r.q8 d)) λv w4 k=>?_;obtain ⟨rfl,a⟩:=k;have d:=d.ta a;have b:=b.k0 a;have e:=e.k0 a;have j:=j.q8 a;have h:=h.q8 a;have f:=f.q8 a;have g:=g.q8 a;refine zm rfl (zx rfl rfl (zx rfl rfl (za rfl (za rfl (zz (a6 (Sr λ_ X=>zf rfl (zl b rfl rfl ?_))))))));refine WL.call hasF35 rfl rfl (Most_spec x S _ h n.wf (r.q8 d)) λv w5 k=>?_;obtain ⟨rfl,a⟩:=k;have d:=d.ta a;have b:=b.k0 a;have e:=e.k0 a;have j:=j.q8 a;have h:=h.q8 a;have f:=f.q8 a;have g:=g.q8 a;refine zm rfl (zx rfl rfl (zx rfl rfl (za rfl (za rfl (zz (X (Sr λ_ V=>zf rfl (zl b rfl rfl (zf rfl (zl e rfl rfl (zf rfl ?_)))))))))));refine WL.ev (Ev.fZ (cs:=[.int .i64 o,.int .i64 p]) rfl rfl e rfl rfl) rfl ?_;refine WL.call hasF36 rfl rfl (r21Sum_spec y S z o p _ f n.wf) λv w6 k=>?_;obtain ⟨⟨ya,fa,rfl,c2⟩,a⟩:=k;obtain ⟨rfl,rfl⟩:=cjq rfl rfl b8 c2;have d:=d.ta a;have b:=b.k0 a;have e:=e.k0 a;have j:=j.q8 a;have h:=h.q8 a;have f:=f.q8 a;have g:=g.q8 a;refine zm rfl (zx rfl rfl (zx rfl rfl (za rfl (za rfl (zz (V (Sr λ_ U=>zf rfl (zl b rfl rfl (zf rfl (zl e rfl rfl (zf rfl ?_)))))))))));refine WL.ev (Ev.fZ (cs:=[.int .i64 o,.int .i64 p]) rfl rfl e rfl rfl) rfl ?_;refine WL.call hasF37 rfl rfl (r21Mean_spec y S z o p _ f n.wf) λv w7 k=>?_;obtain ⟨⟨yb,fb,rfl,c1⟩,a⟩:=k;obtain ⟨rfl,rfl⟩:=d1q b7 c1;have d:=d.ta a;have b:=b.k0 a;have e:=e.k0 a;have j:=j.q8 a;have h:=h.q8 a;have f:=f.q8 a;have g:=g.q8 a;refine zm rfl (zx rfl rfl (zx rfl rfl (za rfl (za rfl (zz (U (Sr λ_ T=>zf rfl (zl b rfl rfl (zf rfl (zl e rfl rfl (zf rfl (zl e rfl rfl (zf rfl ?_)))))))))))));refine WL.ev (Ev.fZ (cs:=[.int .i64 o,.int .i64 p]) rfl rfl e rfl rfl) rfl ?_;refine WL.call hasF38 rfl rfl (r21Var_spec y S A z o p _ f n.wf) λv w8 k=>?_;obtain ⟨⟨yc,fc,rfl,b9⟩,a⟩:=k;obtain ⟨rfl,rfl⟩:=n.var b6 b9;have d:=d.ta a;have b:=b.k0 a;have e:=e.k0 a;have j:=j.q8 a;have h:=h.q8 a;have f:=f.q8 a;have g:=g.q8 a;refine zm rfl (zx rfl rfl (zx rfl rfl (za rfl (za rfl (zz (T (Sr λ_ R=>zf rfl (zl b rfl rfl ?_))))))));refine WL.call hasF39 rfl rfl (First_spec y S _ f n.wf) λv w9 k=>?_;obtain ⟨rfl,a⟩:=k;have d:=d.ta a;have b:=b.k0 a;have e:=e.k0 a;have j:=j.q8 a;have h:=h.q8 a;have f:=f.q8 a;have g:=g.q8 a;refine zm rfl (zx rfl rfl (zx rfl rfl (za rfl (za rfl (zz (R (Sr λ_ Q=>zf rfl (zl b rfl rfl ?_))))))));refine WL.call hasF40 rfl rfl (Last_spec y S _ f n.wf) λv d8 k=>?_;obtain ⟨rfl,a⟩:=k;have d:=d.ta a;have b:=b.k0 a;have e:=e.k0 a;have j:=j.q8 a;have h:=h.q8 a;have f:=f.q8 a
 have g:=g.q8 a;refine zm rfl (zx rfl rfl (zx rfl rfl (za rfl (za rfl (zz (Q (Sr λ_ O=>zm rfl (zm rfl ?_))))))));refine WL.call hasF41 rfl rfl (kJ _ _ _) λv d7 k=>?_;obtain ⟨rfl,rfl⟩:=k;rw[decide_eq_true rfl];refine zm rfl (zw rfl (zm rfl (zw rfl (zm rfl (zw rfl ?_)))));refine WL.call hasF41 rfl rfl (kJ _ _ _) λv w12 k=>?_;obtain ⟨rfl,rfl⟩:=k;rw[decide_eq_true rfl];refine zt rfl rfl (zm rfl (zw rfl (zm rfl (zw rfl (zm rfl (zw rfl ?_))))));refine WL.call hasF41 rfl rfl (kJ _ _ _) λv d6 k=>?_;obtain ⟨rfl,rfl⟩:=k;rw[decide_eq_true rfl];refine zt rfl rfl (za rfl (zz (O (Sr λ_ M=>zm rfl (zm rfl ?_)))));refine WL.call hasF41 rfl rfl (kJ _ _ _) λv d5 k=>?_;obtain ⟨rfl,rfl⟩:=k;rw[decide_eq_true rfl];refine zm rfl (zw rfl (zm rfl (zw rfl (zm rfl (zw rfl ?_)))));refine WL.call hasF41 rfl rfl (kJ _ _ _) λv d4 k=>?_;obtain ⟨rfl,rfl⟩:=k;rw[decide_eq_true rfl];refine zt rfl rfl (za rfl (zz (M (Sr λ_ J=>zm rfl (zg b rfl ?_)))));refine WL.call hasF42 rfl rfl (bytes_spec lo bp L C st x y S D _ j hi d b1 c4) λv d3 k=>?_;obtain ⟨rfl,⟨vv,c3⟩,a1,hk⟩:=k;have g:=g.trans hk;have b:=hk _ _ _ b oD oD oD;have e:=hk _ _ _ e oD oD oD;have d:=a1;have j:=c3;obtain ⟨h,f,-⟩:=j.s.sh _ hi;refine za rfl (zz (J (zc λ_ I=>?_)));refine CW.cQ 42 rfl dZ λc5 H i q=>?_;have d:=d.ta q;have b:=b.k0 q;have j:=j.q8 q;have h:=h.q8 q;have f:=f.q8 q;have g:=g.q8 q;have t:=b;refine wh 0 rfl i (eM rfl) (wh 1 rfl i (eM rfl) (wg 2 rfl rfl rfl rfl rfl i (eM rfl) (wh 3 rfl i (λ_ _=>Ev.aeq rfl rfl rfl) (wh 4 rfl i (eM rfl) (wg 5 rfl rfl rfl rfl rfl i (eM rfl) (wh 6 rfl i (λ_ _=>Ev.aeq rfl rfl rfl) (wh 7 rfl i (eM rfl) (wg 8 rfl rfl rfl rfl rfl i (eM rfl) (wg 9 rfl rfl rfl rfl rfl i (eM rfl) (wg 10 rfl rfl rfl rfl rfl i (λ_ _=>Ev.eql rfl rfl) ?_))))))))));rw[decide_eq_true (rfl)];refine wh 11 rfl i (λ_ _=>Ev.aeq rfl rfl rfl) (wh 12 rfl i (eM rfl) (wg 13 rfl rfl rfl rfl rfl i (eM rfl) (wg 14 rfl rfl rfl rfl rfl i (eM rfl) (wg 15 rfl rfl rfl rfl rfl i (λ_ _=>Ev.eql rfl rfl) ?_))));rw[decide_eq_true (rfl)];refine wh 16 rfl i (λ_ _=>Ev.aeq rfl rfl rfl) (wh 17 rfl i (eM rfl) (wg 18 rfl rfl rfl rfl rfl i (eM rfl) (wg 19 rfl rfl rfl rfl rfl i (eM rfl) (wg 20 rfl rfl rfl rfl rfl i (λ_ _=>Ev.eql rfl rfl) ?_))))
 rw[decide_eq_true (rfl)];refine wh 21 rfl i (λ_ _=>Ev.aeq rfl rfl rfl) (wh 22 rfl i (eM rfl) (wg 23 rfl rfl rfl rfl rfl i (eM rfl) (wg 24 rfl rfl rfl rfl rfl i (eM rfl) (wg 25 rfl rfl rfl rfl rfl i (λ_ _=>Ev.eql rfl rfl) ?_))));rw[decide_eq_true (rfl)];refine wh 26 rfl i (λ_ _=>Ev.aeq rfl rfl rfl) (wh 27 rfl i (eM rfl) (wg 28 rfl rfl rfl rfl rfl i (eM rfl) (wg 29 rfl rfl rfl rfl rfl i (eM rfl) (wg 30 rfl rfl rfl rfl rfl i (λ_ _=>Ev.eql rfl rfl) ?_))));rw[decide_eq_true (rfl)];refine wh 31 rfl i (λ_ _=>Ev.aeq rfl rfl rfl) (wh 32 rfl i (eM rfl) (wg 33 rfl rfl rfl rfl rfl i (eF rfl) (wg 34 rfl rfl rfl rfl rfl i (λ_ B=>Ev.load rfl rfl ((t.q8 B).at_ rfl)) (wg 36 rfl rfl rfl rfl rfl i (eF rfl) (wg 37 rfl rfl rfl rfl rfl i (λ_ B=>Ev.load rfl rfl ((t.q8 B).at_ rfl)) ?_)))));refine WH.rX 35 rfl oR rfl rfl rfl rfl hasF43 rfl rfl (Count_spec_ x S _ h n.wf.s) λv d2 k=>?_;obtain ⟨rfl,a⟩:=k;have d:=d.ta a;have j:=j.q8 a;have f:=f.q8 a;have g:=g.q8 a;have i:=i.trans a;refine ⟨i,?_⟩;refine WH.rX 38 rfl oR rfl rfl rfl rfl hasF44 rfl rfl (d0j y S _ f n.wf.s) λv d1 k=>?_;obtain ⟨rfl,a⟩:=k;have d:=d.ta a;have j:=j.q8 a;have g:=g.q8 a;have i:=i.trans a;refine ⟨i,?_⟩;refine wg 39 rfl rfl rfl rfl rfl i (λ_ _=>Ev.eql rfl rfl) ?_;rw[decide_eq_true (rfl)];refine wh 40 rfl i (λ_ _=>Ev.aeq rfl rfl rfl) (wh 41 rfl i (eA rfl) ?_);refine WH.done oR (H _ _ _ ?_);refine I ?_;refine zr (zr1 rfl rfl ?_);exact ⟨rfl,⟨_,j⟩,d,g⟩
section
variable {w w':World} {e:TypeId} {es lo m:Nat} {v:Value} {cs:List Value}
theorem PQ.gQ{T:TypeId}{b:Nat}{S:Sh}(h:PQ w e es lo v m cs)(f:ShM T w b S)(d:Chg [b] w w')(a:e≠T:=by decide):PQ w' e es lo v m cs:=h.dJ d λx hx=>by
  obtain ⟨rv,rq,hb,_⟩:=f
  rw[List.mem_singleton.1 hx];exact h.dnq hb a
end
theorem Sx.BK.gQ{w w':World}{T T':TypeId}{b c:Nat}{l:List Value}{S:Sh}(h:BK w c T' l)(f:ShM T w b S)(d:Chg [b] w w')(a:T'≠T:=by decide):BK w' c T' l:=by
  obtain ⟨g,i,e,_⟩:=f
  exact h.dJ d (by rw[List.mem_singleton];exact BK.neT h e a)
theorem ShM.neT{w:World}{T T':TypeId}{b c:Nat}{S U:Sh}(h:ShM T w b S)(e:ShM T' w c U)(a:T≠T'):b≠c:=by
  obtain ⟨j,k,f,_⟩:=h
  obtain ⟨g,i,d,_⟩:=e
  exact BK.neT f d a
structure PlH(lo:Nat)(w:World)(bp:Nat)(L:List PS)(C:List (Value×List Nat))(st:Prop)(n:Nat):Prop where
  ex : ∃ vl vc vw ws,BK w bp 29 [vl,vc,vw]/\PQ w 42 2 lo vl L.length (ajq L)/\PQ w 35 1 lo vc C.length (C.map λx=>x.1)/\PQ w 9 1 lo vw C.length ws/\(st->ws=C.map λx=>.string (bA x.2))
  sh : ∀ i g,L[i]?=some g->i≠n->ShM 91 w g.1 g.2.2/\ShM 148 w g.2.1 g.2.2/\Gn g.2.2/\g.2.2.noE
  lb : ∀ g∈L,lo<=g.1/\lo<=g.2.1
  nb:L.Pairwise λa b=>a.1≠b.1/\a.2.1≠b.2.1
  dat : ∀ x∈C,PQ w 5 1 lo x.1 x.2.length (x.2.map u8v)/\B8 x.2/\x.2.length<=100000
  nd:C.Pairwise λx y=>∀ b,x.1.ownBlock=some b->y.1.ownBlock≠some b
  lob:lo<=bp
theorem PlM.hole{lo b:Nat}{w:World}{L:List PS}{C:List (Value×List Nat)}{a:Prop}(h:PlM lo w b L C a)(n:Nat):PlH lo w b L C a n:=
  ⟨h.ex,λi g hg _=>by obtain ⟨h1,h2,h3,h4,_⟩:=h.s.sh g (List.mem_of_getElem? hg);exact ⟨h1,h2,h3,h4⟩,λg hg=>by obtain ⟨_,_,_,_,h5,h6⟩:=h.s.sh g hg;exact ⟨h5,h6⟩,h.s.nb,h.s.dat,h.s.nd,h.lob⟩
theorem PlH.q8{lo m n:Nat}{w w':World}{L:List PS}{C:List (Value×List Nat)}{j:Prop}(h:PlH lo w m L C j n)(a:Chg [] w w'):PlH lo w' m L C j n:=by
  obtain ⟨⟨q,r,p,o,B,A,z,y,s⟩,e,v,u,l,t,f⟩:=h
  exact ⟨⟨q,r,p,o,B.q8 a,A.q8 a,z.q8 a,y.q8 a,s⟩,λi g d b=>⟨(e i g d b).1.q8 a,(e i g d b).2.1.q8 a,(e i g d b).2.2⟩,v,u,λx k=>⟨(l x k).1.q8 a,(l x k).2⟩,t,f⟩
theorem d6q{L:List PS}{i n:Nat}{g a:PS}(h:L.Pairwise λa b=>a.1≠b.1/\a.2.1≠b.2.1)(l:L[n]?=some g)(m:L[i]?=some a)(k:i≠n):a.1≠g.1/\a.2.1≠g.2.1:=by
  obtain ⟨f,rfl⟩:=List.getElem?_eq_some_iff.1 l
  obtain ⟨j,rfl⟩:=List.getElem?_eq_some_iff.1 m
  have d:=List.pairwise_iff_getElem.1 h
  rcases Nat.lt_or_gt_of_ne k with q|q
  · exact d i n j f q
  · have:=d n i f j q
    exact ⟨λe=>this.1 e.symm,λe=>this.2 e.symm⟩
theorem PlH.drx{lo q n:Nat}{w w':World}{L:List PS}{C:List (Value×List Nat)}{l:Prop}{g:PS}{U:Sh}(h:PlH lo w q L C l n)(y:L[n]?=some g)(b:ShM 91 w g.1 U)(d:Chg [g.1] w w'):PlH lo w' q L C l n:=by
  obtain ⟨⟨t,u,s,r,G,F,D,B,v⟩,j,A,p,o,z,k⟩:=h
  exact ⟨⟨t,u,s,r,G.gQ b d,F.gQ b d,D.gQ b d,B.gQ b d,v⟩,λi a f e=>⟨(j i a f e).1.other b d (d6q p y f e).1,(j i a f e).2.1.other b d ((j i a f e).2.1.neT b oD),(j i a f e).2.2⟩,A,p,λx m=>⟨(o x m).1.gQ b d,(o x m).2⟩,z,k⟩
theorem PlH.dqj{lo q n:Nat}{w w':World}{L:List PS}{C:List (Value×List Nat)}{l:Prop}{g:PS}{U:Sh}(h:PlH lo w q L C l n)(y:L[n]?=some g)(b:ShM 148 w g.2.1 U)(d:Chg [g.2.1] w w'):PlH lo w' q L C l n:=by
  obtain ⟨⟨t,u,s,r,G,F,D,B,v⟩,j,A,p,o,z,k⟩:=h
  exact ⟨⟨t,u,s,r,G.gQ b d,F.gQ b d,D.gQ b d,B.gQ b d,v⟩,λi a f e=>⟨(j i a f e).1.other b d ((j i a f e).1.neT b oD),(j i a f e).2.1.other b d (d6q p y f e).2,(j i a f e).2.2⟩,A,p,λx m=>⟨(o x m).1.gQ b d,(o x m).2⟩,z,k⟩
theorem pairC_same{L:List PS}{n d f:Nat}{S g:Sh}(b:L[n]?=some (d,f,S)):ajq (L.set n (d,f,g))=ajq L:=by
  induction L generalizing n with
  | nil=>simp at b
  | cons a L ih=>
    cases n with
    | zero=>cases b;rfl
    | succ n=>
      have e:=ih (n:=n) (by simpa using b)
      show _::_::ajq (L.set n _)=_::_::ajq L
      rw[e]
theorem pairC_put{L:List PS}{n g f d:Nat}{S h:Sh}(b:L[n]?=some (g,f,S)):ajq (L.set n (d,f,h))=(ajq L).set (n*2) (.pointer (some ⟨d,0,none⟩)):=by
  induction L generalizing n with
  | nil=>simp at b
  | cons a L ih=>
    cases n with
    | zero=>cases b;rfl
    | succ n=>
      have e:=ih (n:=n) (by simpa using b)
      show _::_::ajq (L.set n _)=(_::_::ajq L).set ((n+1)*2) _
      rw[e,show (n+1)*2=n*2+1+1 by omega]
      rfl
theorem set_mem{L:List PS}{n:Nat}{g d a:PS}(h:L[n]?=some g)(f:a∈L.set n d):a=d\/∃ i,L[i]?=some a/\i≠n:=by
  obtain ⟨i,b⟩:=List.getElem?_of_mem f
  rw[List.getElem?_set] at b
  split at b
  · split at b
    · cases b;exact .inl rfl
    · cases b
  · exact .inr ⟨i,b,λe=>by simp_all⟩
theorem pw_set{L:List PS}{n:Nat}{g l:PS}(h:L.Pairwise λa b=>a.1≠b.1/\a.2.1≠b.2.1)(o:L[n]?=some g)(m : ∀ i a,L[i]?=some a->i≠n->a.1≠l.1/\a.2.1≠l.2.1):(L.set n l).Pairwise λa b=>a.1≠b.1/\a.2.1≠b.2.1:=by
  rw[List.pairwise_iff_getElem] at h ⊢
  intro i j k d f
  simp only[List.length_set] at k d
  rw[List.getElem_set,List.getElem_set]
  split
  · split
    · omega
    · rename_i e1 e2
      have:=m j _ (List.getElem?_eq_getElem d) (λe=>e2 e.symm)
      exact ⟨λe=>this.1 e.symm,λe=>this.2 e.symm⟩
  · split
    · rename_i e1 e2
      exact m i _ (List.getElem?_eq_getElem k) (λe=>e1 e.symm)
    · exact h i j k d f
theorem PlH.close{lo p n k l:Nat}{w:World}{L:List PS}{C:List (Value×List Nat)}{m:Prop}{S e:Sh}(h:PlH lo w p L C m n)(d:L[n]?=some (k,l,S))(u:ShM 91 w k e)(t:ShM 148 w l e)(s:Gn e)(r:e.noE):PlM lo w p (L.set n (k,l,e)) C m:=by
  have b:=h.lb _ (List.mem_of_getElem? d)
  refine ⟨?_,⟨λa j=>?_,?_,h.dat,h.nd⟩,h.lob⟩
  · rw[pairC_same d,List.length_set];exact h.ex
  · rcases set_mem d j with rfl|⟨i,f,g⟩
    · exact ⟨u,t,s,r,b.1,b.2⟩
    · have:=h.sh i a f g
      have o:=h.lb a (List.mem_of_getElem? f)
      exact ⟨this.1,this.2.1,this.2.2.1,this.2.2.2,o.1,o.2⟩
  · exact pw_set h.nb d λi a j f=>(by have q:=d6q h.nb d j f;exact q)
theorem PlS.snocL{lo b r:Nat}{w d:World}{L:List PS}{C:List (Value×List Nat)}{S:Sh}(f:PlS lo d L C)(h:PlS lo w L C)(p:ShM 91 w b S)(o:ShM 148 w r S)(n:Gn S)(m:S.noE)(l:d.heap.size<=b)(j:d.heap.size<=r)(a:lo<=d.heap.size):PlS lo w (L++[(b,r,S)]) C:=by
  refine ⟨λg k=>?_,?_,h.dat,h.nd⟩
  · rcases List.mem_append.1 k with q|q
    · exact h.sh g q
    · rw[List.mem_singleton.1 q]
      exact ⟨p,o,n,m,Nat.le_trans a l,Nat.le_trans a j⟩
  · rw[List.pairwise_append]
    refine ⟨h.nb,List.pairwise_singleton ..,λx e y i=>?_⟩
    rw[List.mem_singleton.1 i]
    have t:=(f.sh x e).1.lt
    have s:=(f.sh x e).2.1.lt
    exact ⟨by dsimp only;omega,by dsimp only;omega⟩
namespace Sx
section
variable {P:Program} {n:Nat} {D:List Deferred} {s:Sl} {w:World} {ops:Array Oper} {K:KK} {rest:List Oper} {ty:TypeId} {pos:String} {af:Array Edge} {x y:Operand}
theorem evS_storePQ{t e:TypeId}{M:TypeDesc}{l:Nat}{z:Value}{lo i b m c j:Nat}{u:Value}{cs:List Value}[hT:aJ P t M 1 l z](v:k6 s x=some (.pointer (some ⟨b,j,none⟩)))(r:k6 s y=some u)(J:u.oneCell'=true)(A:xX u=false)
    (C:PQ w e i lo (.slice (some ⟨b,0,none⟩) m c) m cs) (R:j<cs.length) : ∃ w',EvS P s (.store t x y) ty w w'/\PQ w' e i lo (.slice (some ⟨b,0,none⟩) m c) m (cs.set j u)/\Chg [b] w w':=by
  rcases C with ⟨k,_⟩|⟨g,O,a,k,I,p,o,n,H,G,F,D⟩
  · cases k
  cases k
  have f:a=a.toList.toArray:=by simp
  rw[f] at p
  have Q:m*i<=a.size:=Nat.le_trans (Nat.mul_le_mul_right _ n) o
  have d:j<a.toList.length:=by simp;omega
  have h:=eax (P:=P) (ty:=ty) (t:=t) (hT:=hT) v r J p d
  refine ⟨_,h.1,.inr ⟨b,c,(a.toList.set j u).toArray,rfl,I,h.2.at_,by simpa using o,n,H,by rw[List.length_set];exact G,?_,λq B=>?_⟩,h.2.chg⟩
  · show ((a.toList.set j u).toArray.toList).take _=_
    rw[<- F]
    exact List.take_set
  · rcases List.mem_or_eq_of_mem_set (show q∈a.toList.set j u by simpa using B) with z|z
    · exact D q z
    · rw[z];exact A
theorem WL.storePQ{t e:TypeId}{v:TypeDesc}{d:Nat}{z:Value}{lo f b m c j:Nat}{u:Value}{cs:List Value}[hT:aJ P t v 1 d z](h:k6 s x=some (.pointer (some ⟨b,j,none⟩)))(g:k6 s y=some u)(r:u.oneCell'=true)(i:xX u=false)
    (o:PQ w e f lo (.slice (some ⟨b,0,none⟩) m c) m cs) (l:j<cs.length) (k : ∀ w',PQ w' e f lo (.slice (some ⟨b,0,none⟩) m c) m (cs.set j u)->Chg [b] w w'->WL P ops K rest n D s w'):WL P ops K (⟨none,.store t x y,ty,pos,af,none⟩::rest) n D s w:=by
  obtain ⟨w',p,a,q⟩:=evS_storePQ (P:=P) (ty:=ty) (t:=t) (hT:=hT) h g r i o l
  exact WL.evs p (k w' a q)
end
end Sx
end
section
open Go Sx Wd Fl
def c5q(w:World)(k:Nat)(bs:List Nat)(pv:Value)(e:Int):Prop:=
  (∃ S b,apx bs=some S/\pv = .pointer (some ⟨b,0,none⟩)/\e=0/\ShM 91 w b S/\k<=b)\/(apx bs=none/\pv = .pointer none/\e=210)
theorem c5q.q8{w w':World}{k:Nat}{d:List Nat}{a:Value}{e:Int}(h:c5q w k d a e)(f:Chg [] w w'):c5q w' k d a e:=by
  rcases h with ⟨S,b,m,l,j,i,g⟩|h
  · exact .inl ⟨S,b,m,l,j,i.q8 f,g⟩
  · exact .inr h
theorem c5q.vJ{w w':World}{k lo m:Nat}{d:List Nat}{a v:Value}{e:Int}{cs:List Value}(h:c5q w k d a e)(f:PQ w 5 1 lo v m cs)(g:Chg v.ownBlock.toList w w'):c5q w' k d a e:=by
  rcases h with ⟨S,b,o,n,l,j,i⟩|h
  · exact .inl ⟨S,b,o,n,l,j.vJ f g,i⟩
  · exact .inr h
structure KDd(bs:List Nat)(g0 cx k:Nat)(pv:Value)(e:Int)(w0:World)(g:Nat×List Nat)(w:World):Prop where
  hi:g.1<=bs.length+2
  hl:g.2.length=bs.length+2
  q:PQ w 5 1 w0.heap.size (.slice (some ⟨g0,0,none⟩) (bs.length+2) cx) (bs.length+2) (g.2.map u8v)
  d:c5q w k bs pv e
  ch:Chg [] w0 w
theorem cox(ab:Option Addr)(d:List Nat)(cb:Nat)(w:World)(a7:GW w)(Q:RW w ab (d.map u8v))(hB:B8 d)(hL:d.length<=140737488351232):Ret Tryz.prog 27 [.slice ab d.length cb] w λu w'=>(∃ pv e,u = .tuple [pv,.int .i64 e,.bool true].toArray/\c5q w' w.heap.size d pv e)/\Chg [] w w':=by
 have a:=crf w;refine zE1 Tryz.func27 rfl ?_;refine Sr λ_ a5=>za rfl (za rfl (za rfl (zz (a5 (Sr λ_ a4=>?_)))));refine WL.empty8 (lo:=w.heap.size) a.size rfl λc3 b8 f V=>?_;have a:=a.ta V;refine zm rfl ?_;refine WL.app8 (l:=[]) (news:=d) rfl rfl f rfl (Q.q8 a) a.size (by simp only[List.length_nil];omega) (by simp only[List.length_nil];omega) rfl λc2 w12 s U b6=>?_;have a:=f.frame U a (Nat.le_refl _);rw[List.nil_append] at s;have f:=s;refine za rfl (zz (a4 (Sr λ_ a3=>zm rfl ?_)));refine WL.buildSlice (m:=2) (cs:=[u8v (71),u8v (72)]) oD oD rfl oR rfl λb2 a0 n=>?_;have o:=n.chg;have z:=n.ge;have Y:YB a0 b2 _ [71,72]:=n.at_;have B:=Nat.le_trans a.size z;have a:=a.ta o;have f:=f.q8 o;refine WL.app8 (l:=d) (news:=[71,72]) rfl rfl f rfl Y.row a.size (by simp only[List.length_cons,List.length_nil];omega) (by simp only[List.length_cons,List.length_nil];omega) rfl λc1 Z O T b5=>?_;have a:=f.frame T a (Nat.le_refl _);have f:=O;obtain ⟨A,p,rfl,r,h,X⟩:=f.bij;have j:(d++[71,72]).length=d.length+2:=by simp
 rw[j] at r f;have y:RW Z A (d.map u8v):=λi u hu=>h i u (by rw[List.map_append,List.getElem?_append_left (List.getElem?_eq_some_iff.1 hu).1];exact hu);refine za rfl (zz (a3 (Sr λ_ a2=>zm rfl (zm rfl (zn rfl ?_)))));rw[j];refine WL.ev (Ev.c6j (d.length) rfl rfl rfl oO) rfl ?_;refine WL.call hasF25 rfl rfl (blj A d p _ y oO X hB oO (a7.q8 a)) λv w1 h'=>?_;obtain ⟨hD,hC⟩:=h';have x:=a.size;obtain ⟨pv,e,rfl,k⟩ : ∃ pv e,v = .tuple [pv,.int .i64 e].toArray/\c5q w1 w.heap.size d pv e:=by
   rcases hD with ⟨S,b,h1,h2,h3,h4,-⟩|⟨h1,h2⟩
   · exact ⟨_,_,h2,.inl ⟨S,b,h1,rfl,rfl,h3,Nat.le_trans x h4⟩⟩
   exact ⟨_,_,h2,.inr ⟨h1,rfl,rfl⟩⟩
 have a:=a.ta hC;have f:=f.q8 hC;have h:=h.q8 hC;refine zm rfl (zx rfl rfl (zx rfl rfl (za rfl (za rfl (zz (a2 (Sr λ_ a1=>zm rfl ?_)))))));refine WL.ev (Ev.toStr (l:=d++[71,72]) rfl (by rw[j]) h) rfl ?_;refine zm rfl ?_;refine WL.ev (Ev.toStr (l:=d) rfl rfl (Q.q8 a)) rfl ?_;refine WL.ev (Ev.addS rfl rfl (by rw[bA_size];have:(⟨#[71,72]⟩:ByteArray).size=2:=rfl;omega)) rfl ?_;rw[show bA d++(⟨#[71,72]⟩:ByteArray)=bA (d++[71,72]) from (bA_append d [71,72]).symm];refine WL.ev (Ev.eqlStr rfl rfl) rfl ?_;rw[decide_eq_true rfl];obtain ⟨t,rfl⟩ : ∃ t,A=some ⟨t,0,none⟩:=by
   rcases f with ⟨q,_⟩|⟨t,_,_,q,_⟩
   · cases q
   cases q;exact ⟨t,rfl⟩
 refine za rfl (zz (a1 (zc λ_ M=>Sr λ_ J=>za rfl (zz (J (CW.block ?_))))));refine CW.loop (S:=λg:Nat×List Nat=>[(5,.slice (some ⟨t,0,none⟩) (d.length+2) p),(6,pv),(7,.int .i64 e),(8,.bool true),(9,.int .i64 (g.1:Int))]) (Inv:=KDd d t p w.heap.size pv e w) (mu:=λg=>d.length+2-g.1) ((0,d++[71,72])) ?_ ?_ ?_
 ·exact ⟨Nat.zero_le _,j,f,k,a⟩
 ·exact SLp
 rintro ⟨i,l⟩ wr ⟨hi,hl,f,k,a⟩;dsimp only at hi hl f;dsimp only;refine zc λ_ I=>Sr λ_ H=>zm rfl (zm rfl (zn rfl (zL rfl rfl (zz (H ?_)))));refine zy rfl ?_ ?_<;>intro a8<;>try simp only[qs] at a8
 ·refine zkk (I (zc λ_ G=>CW.block ?_));refine zR λ_ D=>?_
  refine zm rfl (zm rfl ?_);refine WL.ev (Ev.ixB (i) rfl rfl rfl oO) rfl ?_;refine WL.storePQ (u:=u8v 83) rfl rfl rfl rfl f (by rw[List.length_map];omega) λws a6 R=>?_;have k:=k.vJ f (v:=.slice (some ⟨t,0,none⟩) (d.length+2) p) R;have a:=f.frame (v:=.slice (some ⟨t,0,none⟩) (d.length+2) p) R a (Nat.le_refl _);have f:=a6;refine WL.nil (D _ _ _ (G ?_));refine zS λ_ C=>zm rfl ?_;(first|refine zi rfl rfl ?_|refine zo rfl rfl ?_);refine za rfl (zz (C ?_));refine ⟨rfl,(i+1,l.set i 83),?_,?_,?_⟩
  ·exact SLp
  ·exact ⟨by dsimp only;omega,by dsimp only;rw[List.length_set];exact hl,by dsimp only;rw[List.map_set];exact f,k,a⟩
  show d.length+2-(i+1)<d.length+2-i;omega
 refine CW.exit ?_;refine M (Sr λ_ F=>zm rfl (zm rfl (zm rfl (za rfl (za rfl (za rfl (zz (F ?_))))))));refine zr ?_;refine k9.ret3 rfl rfl rfl rfl ?_;exact ⟨⟨pv,e,rfl,k⟩,a⟩
end
section
open Go Sx Wd
open Go.ChangeShapes Go.WideShapes Go.ChangeAt Go.WideMaps Go.WideElems Go.RowKit
theorem own:ownKnob Tryz.prog.godebug=none:=by kernel_rfl
theorem laidOut:laidOutB Tryz.prog=true:=by kernel_rfl
theorem door_met(os:Os)(args:Array Value):laidMetH Tryz.prog [("math/bits.deBruijn32tab",Rows.laid_math_bits_deBruijn32tab)] ((World.doorLaid Tryz.prog 400 os).forCall (λ_ _=>0) ⟨#[],args,[]⟩).memory:=
  laidMetH_of_parts3 (fuel:=8) (laidMet_of_run' 8 oR oR) oR oR
theorem gDeb:Tryz.prog.globalNamed "math/bits.deBruijn32tab"=some 6:=by kernel_rfl
theorem tDeb:(Tryz.prog.globals[6]?).map (·.type)=some 320:=by kernel_rfl
theorem deb_data{H:Type}: (Rows.laid_math_bits_deBruijn32tab:DataW H) = .agg (deb.map λn:Nat=>.lit (.int .u8 (n:Int))):=rfl
theorem gw_of_laid{W:World}(h:laidMetH Tryz.prog [("math/bits.deBruijn32tab",Rows.laid_math_bits_deBruijn32tab)] W):GW W:=by
  rw[MakeChecks.laidMetH_plain _ _ _ oR] at h
  obtain ⟨D,⟨G,B,g,H,p0,C,f,p,o,s,_,_⟩,_,_⟩:=h
  obtain rfl:=Option.some.inj (gDeb.symm.trans f)
  obtain rfl:=Option.some.inj (tDeb.symm.trans p)
  obtain ⟨j,F,rfl,e,t,u,r⟩:=DataW.trod_array Tryz.underlying320 s
  have A:Tryz.prog.cellsOf 5=1:=by kernel_rfl
  simp only[Prod.mk.injEq] at e
  intro i q
  have b:=r i q
  rw[A,Nat.mul_one] at b
  have d:j[i]?=some (j[i]'(by omega)):=List.getElem?_eq_getElem oO
  rw[d] at b
  obtain ⟨k,z,y,_⟩:=DataW.trod_int Tryz.underlying5 b
  have m:(deb.map λn:Nat=>(DataW.lit (.int .u8 (n:Int)):DataW Unit))=j.map (·.1):=by
    have:=e.1
    rw[deb_data] at this
    exact DataW.agg.inj this
  have a:(deb.map λn:Nat=>(DataW.lit (.int .u8 (n:Int)):DataW Unit))[i]?=some (.lit (.int .u8 ((deb.getD i 0:Nat):Int))):=by
    rw[List.getElem?_map,List.getElem?_eq_getElem (show i<deb.length from q),List.getD_eq_getElem?_getD,List.getElem?_eq_getElem (show i<deb.length from q)];rfl
  rw[m,List.getElem?_map,d] at a
  simp only[Option.map_some] at a
  rw[y] at a
  have v:k=((deb.getD i 0:Nat):Int):=by
    have:=Option.some.inj a
    simp only[DataW.lit.injEq,Lit.int.injEq,true_and] at this
    exact this
  subst v
  have w:g[i]?=some (.int .u8 ((deb.getD i 0:Nat):Int)):=by
    have x:(g.toList.drop i)[0]?=some (.int .u8 ((deb.getD i 0:Nat):Int)):=by
      have:=congrArg (λl:List Value=>l[0]?) z
      simpa using this
    simpa using x
  have:=World.var?_cell f o i
  rw[w] at this
  exact this
theorem dsj{H:Type}{enc:TypeId×Value->H}{P:Program}{w:World}{f:Nat}{a:Nat->Bool}{d:Bool}{n:Nat}{e:TypeId}{v:Value}{x:DataW H×List MemPlace}(g:P.underlying e=some (.float .f64))(h:DataW.trod enc P w f a d n e [v]=some x): ∃ b,v = .float .f64 b/\b<18446744073709551616:=by
  cases n with
  | zero=>simp[DataW.trod] at h
  | succ n=>
    simp only[DataW.trod,g] at h
    cases v<;>simp_all
    rename_i k b
    cases k<;>simp_all [Lit.wf]
end
end Go.Proofs.YtomlallhlakhfaaGreatDoor