/- Part 4 of what the proof rests on. No condition. -/
import Derived.Test.YtomlallhlakhfaaGreatDoorZp3
set_option linter.unusedVariables false
set_option linter.unusedSimpArgs false
set_option maxRecDepth 100000
set_option maxHeartbeats 4000000
namespace Go.Proofs.YtomlallhlakhfaaGreatDoor
section
open Go Sx Wd
theorem uJ{x:Nat}(k:x<18446744073709551616):k8 x=if 9218868437227405312<x%9223372036854775808 then 5 else if x%9223372036854775808=9218868437227405312/\x/9223372036854775808=1 then 4 else if x%9223372036854775808=9218868437227405312 then 3 else if x%9223372036854775808=0/\x/9223372036854775808=1 then 1 else if x%9223372036854775808=0 then 2 else 0:=by
  have j:x/4503599627370496%2048=2047↔9218868437227405312<=x%9223372036854775808:=by omega
  have i:(x/4503599627370496%2048=2047/\x%4503599627370496≠0)↔9218868437227405312<x%9223372036854775808:=by omega
  have e:x/9223372036854775808%2=1↔x/9223372036854775808=1:=by omega
  have h:(¬0<x/4503599627370496%2048/\¬0<x%4503599627370496)↔x%9223372036854775808=0:=by omega
  by_cases h1:9218868437227405312<x%9223372036854775808
  · have L:k8 x=5:=by unfold k8 g6;rw[if_pos (i.2 h1)];rfl
    rw[L,if_pos h1]
  · have b : ¬(x/4503599627370496%2048=2047/\x%4503599627370496≠0):=λq=>h1 (i.1 q)
    by_cases h2:x%9223372036854775808=9218868437227405312
    · have g:=j.2 oO
      by_cases h3:x/9223372036854775808=1
      · have L:k8 x=4:=by
          unfold k8 g6;rw[if_neg b,if_pos g];simp[e.2 h3]
        rw[L,if_neg h1,if_pos ⟨h2,h3⟩]
      · have L:k8 x=3:=by
          have a : ¬x/9223372036854775808%2=1:=λq=>h3 (e.1 q)
          unfold k8 g6;rw[if_neg b,if_pos g];simp[a]
        rw[L,if_neg h1,if_neg (λq=>h3 q.2),if_pos h2]
    · have f : ¬x/4503599627370496%2048=2047:=λq=>h2 (by have:=j.1 q;omega)
      by_cases h4:x%9223372036854775808=0
      · have a:=h.2 h4
        by_cases h3:x/9223372036854775808=1
        · have L:k8 x=1:=by
            unfold k8 g6;rw[if_neg b,if_neg f,if_neg a.1,if_neg a.2];simp[e.2 h3]
          rw[L,if_neg h1,if_neg (λq=>h2 q.1),if_neg h2,if_pos ⟨h4,h3⟩]
        · have L:k8 x=2:=by
            have d : ¬x/9223372036854775808%2=1:=λq=>h3 (e.1 q)
            unfold k8 g6;rw[if_neg b,if_neg f,if_neg a.1,if_neg a.2];simp[d]
          rw[L,if_neg h1,if_neg (λq=>h2 q.1),if_neg h2,if_neg (λq=>h3 q.2),if_pos h4]
      · have L:k8 x=0:=by
          unfold k8 g6;rw[if_neg b,if_neg f]
          by_cases d:0<x/4503599627370496%2048
          · rw[if_pos d];rfl
          · rw[if_neg d,if_pos (Classical.byContradiction λq=>h4 (h.1 ⟨d,q⟩))];rfl
        rw[L,if_neg h1,if_neg (λq=>h2 q.1),if_neg h2,if_neg (λq=>h4 q.1),if_neg h4]
theorem bzj(x:Nat)(w:World)(h:x<18446744073709551616):Ret Tryz.prog 161 [.float .f64 x] w λu w'=>u = .int .i64 (k8 x:Int)/\w=w':=by
 refine zE1 Tryz.func161 rfl ?_;refine Sr λ_ B=>za rfl (zz (B (Sr λ_ A=>zm rfl ?_)));refine WL.ev (Ev.ext rfl (ext48 _ _)) rfl ?_;refine za rfl (zz (A (Sr λ_ z=>zm rfl ?_)));refine WL.ev (Ev.avx (b:=63) rfl rfl (by simp only[IntKind.bits];omega)) rfl ?_;rw[show x/2^63=x/9223372036854775808 from rfl];refine zq rfl rfl ?_;rw[show decide (((x/9223372036854775808:Nat):Int)=1)=decide (x/9223372036854775808=1) from decide_eq_decide.2 oO];refine za rfl (zz (z (Sr λ_ y=>zm rfl ?_)));refine WL.ev (Ev.dhx (b:=9223372036854775808) rfl rfl oO) rfl ?_;refine za rfl (zz (y (zc λ_ v=>CW.block (Sr λ_ q=>zm rfl (zG rfl rfl (za rfl (zz (q ?_))))))));refine zy rfl ?_ ?_<;>intro I<;>try simp only[qs] at I
 ·refine Sr λ_ p=>za rfl (zz (p ?_));refine zr (zr1 rfl rfl ?_);refine ⟨?_,rfl⟩;rw[uJ h,if_pos (show 9218868437227405312<x%9223372036854775808 by omega)];rfl
 have s : ¬9218868437227405312<x%9223372036854775808:=by omega
 refine CW.oX 16 (decide (x%9223372036854775808=9218868437227405312/\x/9223372036854775808=1)) ?_ ?_
 ·refine zS λ_ d=>zm rfl (zq rfl rfl (zm rfl ?_));refine zb ?_ ?_<;>intro F<;>try simp only[qs] at F
  ·refine zw rfl (zm rfl (zt rfl rfl (za rfl (zz (d ?_)))));refine ⟨rfl,rfl,j0.g8 rfl ?_ ?_⟩
   ·first|(simp;omega)|(simp_all;done)|(refine decide_eq_decide.2 ?_;omega)
   exact SMg
  refine zv rfl (ze rfl rfl (za rfl (zz (d ?_))));refine ⟨rfl,rfl,j0.g8 rfl ?_ ?_⟩
  ·first|(simp;omega)|(simp_all;done)|(refine decide_eq_decide.2 ?_;omega)
  exact SMg
 refine zy rfl ?_ ?_<;>intro f<;>try simp only[qs] at f
 ·have g:=f
  refine Sr λ_ o=>za rfl (zz (o ?_));refine zr (zr1 rfl rfl ?_);refine ⟨?_,rfl⟩;rw[uJ h,if_neg s,if_pos g];rfl
 have g : ¬(x%9223372036854775808=9218868437227405312/\x/9223372036854775808=1):=f;refine Sr λ_ n=>zm rfl (zq rfl rfl (za rfl (zz (n ?_))));refine zy rfl ?_ ?_<;>intro H<;>try simp only[qs] at H
 ·have r:x%9223372036854775808=9218868437227405312:=by omega
  refine Sr λ_ m=>za rfl (zz (m ?_));refine zr (zr1 rfl rfl ?_);refine ⟨?_,rfl⟩;rw[uJ h,if_neg s,if_neg g,if_pos r];rfl
 have r : ¬x%9223372036854775808=9218868437227405312:=by omega
 refine CW.oX 25 (decide (x%9223372036854775808=0/\x/9223372036854775808=1)) ?_ ?_
 ·refine zS λ_ a=>zm rfl (zq rfl rfl (zm rfl ?_));refine zb ?_ ?_<;>intro D<;>try simp only[qs] at D
  ·refine zw rfl (zm rfl (zt rfl rfl (za rfl (zz (a ?_)))));refine ⟨rfl,rfl,j0.g8 rfl ?_ ?_⟩
   ·first|(simp;omega)|(simp_all;done)|(refine decide_eq_decide.2 ?_;omega)
   exact SMg
  refine zv rfl (ze rfl rfl (za rfl (zz (a ?_))));refine ⟨rfl,rfl,j0.g8 rfl ?_ ?_⟩
  ·first|(simp;omega)|(simp_all;done)|(refine decide_eq_decide.2 ?_;omega)
  exact SMg
 refine zy rfl ?_ ?_<;>intro e<;>try simp only[qs] at e
 ·have t:=e
  refine Sr λ_ l=>za rfl (zz (l ?_));refine zr (zr1 rfl rfl ?_);refine ⟨?_,rfl⟩;rw[uJ h,if_neg s,if_neg g,if_neg r,if_pos t];rfl
 have t : ¬(x%9223372036854775808=0/\x/9223372036854775808=1):=e;refine Sr λ_ k=>zm rfl (zq rfl rfl (za rfl (zz (k ?_))));refine zy rfl ?_ ?_<;>intro G<;>try simp only[qs] at G
 ·have C:x%9223372036854775808=0:=by omega
  refine Sr λ_ j=>za rfl (zz (j ?_));refine zr (zr1 rfl rfl ?_);refine ⟨?_,rfl⟩;rw[uJ h,if_neg s,if_neg g,if_neg r,if_neg t,if_pos C];rfl
 have C : ¬x%9223372036854775808=0:=by omega
 refine zkk (v (Sr λ_ i=>za rfl (zz (i ?_))));refine zr (zr1 rfl rfl ?_);refine ⟨?_,rfl⟩;rw[uJ h,if_neg s,if_neg g,if_neg r,if_neg t,if_neg C];rfl
theorem agq(n:Nat)(w:World)(e:n<=1000000000000000):Ret Tryz.prog 153 [.int .i64 (n:Int)] w λu w'=>u = .bool (decide (n<=1099511627776))/\w=w':=by
 refine zE1 Tryz.func153 rfl ?_;refine Sr λ_ b=>za rfl (zz (b (Sr λ_ a=>zm rfl ?_)));refine WL.ev (Ev.geq rfl rfl) rfl ?_;refine zm rfl ?_;refine zb ?_ ?_<;>intro d<;>try simp only[qs] at d
 ·refine zw rfl (zm rfl (zw rfl (zQ rfl rfl (zt rfl rfl (za rfl (zz (a ?_)))))));refine zr (zr1 rfl rfl ?_);refine ⟨congrArg Value.bool (decide_eq_decide.2 oO),rfl⟩
 refine zv rfl (zv rfl (ze rfl rfl (za rfl (zz (a ?_)))));refine zr (zr1 rfl rfl ?_)
 exfalso;omega
theorem djq(j k:Int)(w:World):Ret Tryz.prog 180 [.agg [.int .i64 j,.int .i64 k].toArray] w λu w'=>u = .bool (decide (yZ j k))/\Chg [] w w':=by
 have a:=crf w;refine zE1 Tryz.func180 rfl ?_;refine Sr λ_ f=>?_;refine zBh rfl rfl rfl a λo n d m l e a=>?_;refine za rfl (zz (f (Sr λ_ b=>zf rfl (zl d rfl rfl ?_))));refine WL.ev (Ev.geq rfl rfl) rfl ?_;refine zm rfl ?_;refine zb ?_ ?_<;>intro i<;>try simp only[qs] at i
 ·refine zw rfl (zf rfl (zw rfl (zl d rfl rfl (zw rfl (zQ rfl rfl (zt rfl rfl (zm rfl ?_)))))));refine zb ?_ ?_<;>intro h<;>try simp only[qs] at h
  ·refine zw rfl (zf rfl (zw rfl (zl d rfl rfl (zw rfl ?_))));refine WL.ev (Ev.geq rfl rfl) rfl ?_
   refine zt rfl rfl (zm rfl ?_);refine zb ?_ ?_<;>intro g<;>try simp only[qs] at g
   ·refine zw rfl (zf rfl (zw rfl (zl d rfl rfl (zw rfl (zQ rfl rfl (zt rfl rfl (za rfl (zz (b ?_)))))))));refine zr (zr1 rfl rfl ?_);refine ⟨congrArg Value.bool ?_,a⟩
    first|(refine decide_eq_decide.2 ?_;unfold yZ;omega)|(symm;refine decide_eq_false ?_;unfold yZ;omega)|(symm;refine decide_eq_true ?_;unfold yZ;omega)
   refine zv rfl (zv rfl (zv rfl (ze rfl rfl (za rfl (zz (b ?_))))));refine zr (zr1 rfl rfl ?_);refine ⟨congrArg Value.bool ?_,a⟩
   first|(refine decide_eq_decide.2 ?_;unfold yZ;omega)|(symm;refine decide_eq_false ?_;unfold yZ;omega)|(symm;refine decide_eq_true ?_;unfold yZ;omega)
  refine zv rfl (zv rfl (zv rfl (ze rfl rfl (zm rfl (zv rfl (zv rfl (zv rfl (ze rfl rfl (za rfl (zz (b ?_)))))))))));refine zr (zr1 rfl rfl ?_);refine ⟨congrArg Value.bool ?_,a⟩
  first|(refine decide_eq_decide.2 ?_;unfold yZ;omega)|(symm;refine decide_eq_false ?_;unfold yZ;omega)|(symm;refine decide_eq_true ?_;unfold yZ;omega)
 refine zv rfl (zv rfl (zv rfl (ze rfl rfl (zm rfl (zv rfl (zv rfl (zv rfl (ze rfl rfl (zm rfl (zv rfl (zv rfl (zv rfl (ze rfl rfl (za rfl (zz (b ?_))))))))))))))));refine zr (zr1 rfl rfl ?_);refine ⟨congrArg Value.bool ?_,a⟩
 first|(refine decide_eq_decide.2 ?_;unfold yZ;omega)|(symm;refine decide_eq_false ?_;unfold yZ;omega)|(symm;refine decide_eq_true ?_;unfold yZ;omega)
def dzj(s:SP)(pn pi:Int):Int:=if 0<s.na/\pn=2 then 60 else if 0<s.up+s.dn/\pi=2 then 61 else 0
theorem djx(s:SP)(n o:Int)(w:World)(C:s.le 1000000000000000):Ret Tryz.prog 181 [.agg [.int .i64 (s.na:Int),.int .i64 (s.up:Int),.int .i64 (s.dn:Int),.int .i64 (s.mi:Int),.int .i64 (s.pl:Int),.int .i64 (s.al:Int)].toArray,.agg [.int .i64 n,.int .i64 o].toArray] w λu w'=>u = .int .i64 (dzj s n o)/\Chg [] w w':=by
 have T:=C;obtain ⟨R,Q,O,M,J,I⟩:=C;have a:=crf w;refine zE2 Tryz.func181 rfl ?_;refine Sr λ_ y=>?_;refine zBh rfl rfl rfl a λV H b F D j a=>?_;refine zBh rfl rfl rfl a λU G m l k i a=>?_;have q:=zdd b.lt k;have b:=b.k0 l;refine za rfl (zz (y (zc λ_ x=>?_)));refine CW.oX 12 (decide (0<s.na/\n=2)) ?_ ?_
 ·refine zS λ_ g=>zf rfl (zl b rfl rfl (zG rfl rfl (zm rfl ?_)));refine zb ?_ ?_<;>intro B<;>try simp only[qs] at B
  ·refine zw rfl (zf rfl (zw rfl (zl m rfl rfl (zw rfl (zq rfl rfl (zt rfl rfl (zz (g ?_))))))));refine ⟨rfl,rfl,j0.g8 rfl ?_ ?_⟩
   ·first|(simp;omega)|(simp_all;done)|(refine decide_eq_decide.2 ?_;omega)
   exact SMg
  refine zv rfl (zv rfl (zv rfl (ze rfl rfl (zz (g ?_)))));refine ⟨rfl,rfl,j0.g8 rfl ?_ ?_⟩
  ·first|(simp;omega)|(simp_all;done)|(refine decide_eq_decide.2 ?_;omega)
  exact SMg
 refine zy rfl ?_ ?_<;>intro e<;>try simp only[qs] at e
 ·have p:=e
  refine Sr λ_ v=>za rfl (zz (v ?_));refine zr (zr1 rfl rfl ?_);unfold dzj;rw[if_pos p];exact ⟨rfl,a⟩
 have p : ¬(0<s.na/\n=2):=e;refine zkk (x (zc λ_ t=>?_));refine CW.oX 23 (decide (0<s.up+s.dn/\o=2)) ?_ ?_
 ·refine zS λ_ f=>zf rfl (zl b rfl rfl (zf rfl (zl b rfl rfl ?_)));(first|refine zi rfl rfl ?_|refine zo rfl rfl ?_);refine zG rfl rfl (zm rfl ?_);refine zb ?_ ?_<;>intro A<;>try simp only[qs] at A
  ·refine zw rfl (zf rfl (zw rfl (zl m rfl rfl (zw rfl (zq rfl rfl (zt rfl rfl (zz (f ?_))))))));refine ⟨rfl,rfl,j0.g8 rfl ?_ ?_⟩
   ·first|(simp;omega)|(simp_all;done)|(refine decide_eq_decide.2 ?_;omega)
   exact SMg
  refine zv rfl (zv rfl (zv rfl (ze rfl rfl (zz (f ?_)))));refine ⟨rfl,rfl,j0.g8 rfl ?_ ?_⟩
  ·first|(simp;omega)|(simp_all;done)|(refine decide_eq_decide.2 ?_;omega)
  exact SMg
 refine zy rfl ?_ ?_<;>intro d<;>try simp only[qs] at d
 ·have z:=d
  refine Sr λ_ r=>za rfl (zz (r ?_));refine zr (zr1 rfl rfl ?_);unfold dzj;rw[if_neg p,if_pos z];exact ⟨rfl,a⟩
 have z : ¬(0<s.up+s.dn/\o=2):=d;refine zkk (t (Sr λ_ h=>za rfl (zz (h ?_))));refine zr (zr1 rfl rfl ?_);unfold dzj;rw[if_neg p,if_neg z];exact ⟨rfl,a⟩
theorem btx(s:SP)(w:World)(p:s.le 1000000000000000):Ret Tryz.prog 87 [.agg [.int .i64 (s.na:Int),.int .i64 (s.up:Int),.int .i64 (s.dn:Int),.int .i64 (s.mi:Int),.int .i64 (s.pl:Int),.int .i64 (s.al:Int)].toArray] w λu w'=>u = .bool (decide (cZ s))/\Chg [] w w':=by
 have D:=p;obtain ⟨C,B,A,z,y,x⟩:=p;have b:=crf w;refine zE1 Tryz.func87 rfl ?_;refine Sr λ_ i=>?_;refine zBh rfl rfl rfl b λO t a r q h b=>?_;refine za rfl (zz (i ?_));refine CW.oX 3 (decide ((s.na<=1099511627776/\s.up<=1099511627776)/\s.dn<=1099511627776)) ?_ ?_
 ·refine zS λ_ f=>zf rfl (zl a rfl rfl ?_);refine WL.call hasF153 rfl rfl (agq s.na _ oO) λv M d=>?_;obtain ⟨rfl,rfl⟩:=d;refine zm rfl ?_;refine zb ?_ ?_<;>intro o<;>try simp only[qs] at o
  ·refine zw rfl (zf rfl (zw rfl (zl a rfl rfl (zw rfl ?_))));refine WL.call hasF153 rfl rfl (agq s.up _ oO) λv J d=>?_
   obtain ⟨rfl,rfl⟩:=d;refine zt rfl rfl (zm rfl ?_);refine zb ?_ ?_<;>intro n<;>try simp only[qs] at n
   ·refine zw rfl (zf rfl (zw rfl (zl a rfl rfl (zw rfl ?_))));refine WL.call hasF153 rfl rfl (agq s.dn _ oO) λv I d=>?_
    obtain ⟨rfl,rfl⟩:=d;refine zt rfl rfl (za rfl (zz (f ?_)));refine ⟨rfl,rfl,j0.g8 rfl ?_ ?_⟩
    ·first|(simp;omega)|(simp_all;done)|(refine decide_eq_decide.2 ?_;omega)
    exact SMg
   refine zv rfl (zv rfl (zv rfl (ze rfl rfl (za rfl (zz (f ?_))))));refine ⟨rfl,rfl,j0.g8 rfl ?_ ?_⟩
   ·first|(simp;omega)|(simp_all;done)|(refine decide_eq_decide.2 ?_;omega)
   exact SMg
  refine zv rfl (zv rfl (zv rfl (ze rfl rfl (zm rfl (zv rfl (zv rfl (zv rfl (ze rfl rfl (za rfl (zz (f ?_)))))))))));refine ⟨rfl,rfl,j0.g8 rfl ?_ ?_⟩
  ·first|(simp;omega)|(simp_all;done)|(refine decide_eq_decide.2 ?_;omega)
  exact SMg
 refine CW.oX 4 (decide ((s.mi<=1099511627776/\s.pl<=1099511627776)/\s.al<=1099511627776)) ?_ ?_
 ·refine zS λ_ e=>zf rfl (zl a rfl rfl ?_);refine WL.call hasF153 rfl rfl (agq s.mi _ oO) λv H d=>?_;obtain ⟨rfl,rfl⟩:=d;refine zm rfl ?_;refine zb ?_ ?_<;>intro m<;>try simp only[qs] at m
  ·refine zw rfl (zf rfl (zw rfl (zl a rfl rfl (zw rfl ?_))));refine WL.call hasF153 rfl rfl (agq s.pl _ oO) λv G d=>?_
   obtain ⟨rfl,rfl⟩:=d;refine zt rfl rfl (zm rfl ?_);refine zb ?_ ?_<;>intro l<;>try simp only[qs] at l
   ·refine zw rfl (zf rfl (zw rfl (zl a rfl rfl (zw rfl ?_))));refine WL.call hasF153 rfl rfl (agq s.al _ oO) λv F d=>?_
    obtain ⟨rfl,rfl⟩:=d;refine zt rfl rfl (za rfl (zz (e ?_)));refine ⟨rfl,rfl,j0.g8 rfl ?_ ?_⟩
    ·first|(simp;omega)|(simp_all;done)|(refine decide_eq_decide.2 ?_;omega)
    exact SMg
   refine zv rfl (zv rfl (zv rfl (ze rfl rfl (za rfl (zz (e ?_))))));refine ⟨rfl,rfl,j0.g8 rfl ?_ ?_⟩
   ·first|(simp;omega)|(simp_all;done)|(refine decide_eq_decide.2 ?_;omega)
   exact SMg
  refine zv rfl (zv rfl (zv rfl (ze rfl rfl (zm rfl (zv rfl (zv rfl (zv rfl (ze rfl rfl (za rfl (zz (e ?_)))))))))));refine ⟨rfl,rfl,j0.g8 rfl ?_ ?_⟩
  ·first|(simp;omega)|(simp_all;done)|(refine decide_eq_decide.2 ?_;omega)
  exact SMg
 refine Sr λ_ g=>zm rfl (zm rfl ?_);refine zb ?_ ?_<;>intro k<;>try simp only[qs] at k
 ·refine zw rfl (zm rfl (zt rfl rfl (zm rfl ?_)));refine zb ?_ ?_<;>intro j<;>try simp only[qs] at j
  ·refine zw rfl (zf rfl (zw rfl (zl a rfl rfl (zw rfl (zf rfl (zw rfl (zl a rfl rfl (zw rfl ?_))))))));(first|refine zi rfl rfl ?_|refine zo rfl rfl ?_);refine zw rfl (zf rfl (zw rfl (zl a rfl rfl (zw rfl ?_))));(first|refine zi rfl rfl ?_|refine zo rfl rfl ?_);refine zw rfl (zf rfl (zw rfl (zl a rfl rfl (zw rfl ?_))));(first|refine zi rfl rfl ?_|refine zo rfl rfl ?_);refine zw rfl (zf rfl (zw rfl (zl a rfl rfl (zw rfl ?_))));(first|refine zi rfl rfl ?_|refine zo rfl rfl ?_);refine zw rfl (zf rfl (zw rfl (zl a rfl rfl (zw rfl (zQ rfl rfl (zt rfl rfl (za rfl (zz (g ?_)))))))));refine zr (zr1 rfl rfl ?_);refine ⟨congrArg Value.bool ?_,b⟩
   first|(refine decide_eq_decide.2 ?_;unfold cZ;omega)|(symm;refine decide_eq_false ?_;unfold cZ;omega)|(symm;refine decide_eq_true ?_;unfold cZ;omega)
  refine zv rfl (zv rfl (zv rfl (zv rfl (zv rfl (zv rfl (zv rfl (zv rfl (zv rfl (zv rfl (zv rfl (zv rfl (zv rfl (zv rfl (zv rfl (zv rfl (zv rfl (ze rfl rfl (za rfl (zz (g ?_))))))))))))))))))));refine zr (zr1 rfl rfl ?_);refine ⟨congrArg Value.bool ?_,b⟩
  first|(refine decide_eq_decide.2 ?_;unfold cZ;omega)|(symm;refine decide_eq_false ?_;unfold cZ;omega)|(symm;refine decide_eq_true ?_;unfold cZ;omega)
 refine zv rfl (ze rfl rfl (zm rfl (zv rfl (zv rfl (zv rfl (zv rfl (zv rfl (zv rfl (zv rfl (zv rfl (zv rfl (zv rfl (zv rfl (zv rfl (zv rfl (zv rfl (zv rfl (zv rfl (zv rfl (ze rfl rfl (za rfl (zz (g ?_)))))))))))))))))))))));refine zr (zr1 rfl rfl ?_);refine ⟨congrArg Value.bool ?_,b⟩
 first|(refine decide_eq_decide.2 ?_;unfold cZ;omega)|(symm;refine decide_eq_false ?_;unfold cZ;omega)|(symm;refine decide_eq_true ?_;unfold cZ;omega)
theorem bsj(w:World):Ret Tryz.prog 110 [] w λu w'=>u = .float .f64 9221120237041090560/\w=w':=by
 refine zE0 Tryz.func110 rfl ?_;refine Sr λ_ b=>za rfl (zz (b (Sr λ_ a=>?_)));refine WL.ev (Ev.ext rfl (ext82 _ _)) rfl ?_;refine za rfl (zz (a ?_));refine zr (zr1 rfl rfl ?_);exact ⟨rfl,rfl⟩
theorem djj(neg:Bool)(w:World):Ret Tryz.prog 182 [.bool neg] w λu w'=>u = .float .f64 (if neg=true then 18442240474082181120 else 9218868437227405312)/\w=w':=by
 refine zE1 Tryz.func182 rfl ?_;refine Sr λ_ l=>za rfl (zz (l (Sr λ_ j=>za rfl (zz (j (zc λ_ e=>Sr λ_ i=>zm rfl (zz (i ?_))))))));refine zy rfl ?_ ?_<;>intro d<;>try simp only[qs] at d
 ·have k:=d
  refine zR λ_ g=>?_;refine zm rfl ?_;refine WL.ev (Ev.iJ (a:=9218868437227405312) (b:=9223372036854775808) rfl rfl oO) rfl ?_;refine za rfl ?_;refine WL.nil (g _ _ _ (e ?_));refine Sr λ_ h=>zm rfl ?_;refine WL.ev (Ev.ext rfl (ext82 _ _)) rfl ?_;refine za rfl (zz (h ?_));refine zr (zr1 rfl rfl ?_);rw[if_pos k];exact ⟨rfl,rfl⟩
 have k:=d;refine zkk (e (Sr λ_ f=>zm rfl ?_));refine WL.ev (Ev.ext rfl (ext82 _ _)) rfl ?_;refine za rfl (zz (f ?_));refine zr (zr1 rfl rfl ?_);rw[if_neg (by rw[k];decide)];exact ⟨rfl,rfl⟩
theorem bfj(neg:Bool)(w:World):Ret Tryz.prog 183 [.bool neg] w λu w'=>u = .float .f64 (if neg=true then 9223372036854775808 else 0)/\w=w':=by
 refine zE1 Tryz.func183 rfl ?_;refine Sr λ_ i=>za rfl (zz (i (Sr λ_ h=>za rfl (zz (h (zc λ_ b=>Sr λ_ g=>zm rfl (zz (g ?_))))))));refine zy rfl ?_ ?_<;>intro a<;>try simp only[qs] at a
 ·have k:=a
  refine zR λ_ e=>?_;refine za rfl ?_;refine WL.nil (e _ _ _ (b ?_));refine Sr λ_ f=>zm rfl ?_;refine WL.ev (Ev.ext rfl (ext82 _ _)) rfl ?_;refine za rfl (zz (f ?_));refine zr (zr1 rfl rfl ?_);rw[if_pos k];exact ⟨rfl,rfl⟩
 have k:=a;refine zkk (b (Sr λ_ d=>zm rfl ?_));refine WL.ev (Ev.ext rfl (ext82 _ _)) rfl ?_;refine za rfl (zz (d ?_));refine zr (zr1 rfl rfl ?_);rw[if_neg (by rw[k];decide)];exact ⟨rfl,rfl⟩
theorem bzq(s:SP)(f g:Int)(w:World)(hs:s.le 1000000000000000):Ret Tryz.prog 104 [.agg [.int .i64 (s.na:Int),.int .i64 (s.up:Int),.int .i64 (s.dn:Int),.int .i64 (s.mi:Int),.int .i64 (s.pl:Int),.int .i64 (s.al:Int)].toArray,.agg [.int .i64 f,.int .i64 g].toArray] w λu w'=>u = .tuple [.float .f64 ((lZ s f g).getD 0),.bool (lZ s f g).isSome].toArray/\Chg [] w w':=by
 have Z:=hs;obtain ⟨b8,b7,b6,b5,b4,b1⟩:=hs;have a:=crf w;refine zE2 Tryz.func104 rfl ?_;refine Sr λ_ X=>?_;refine zBh rfl rfl rfl a λb2 b0 b a8 a7 I a=>?_;refine zBh rfl rfl rfl a λb3 a9 e M J H a=>?_;have Q:=zdd b.lt J;have b:=b.k0 M;refine za rfl (za rfl (zz (X (Sr λ_ V=>zg b rfl ?_))));refine WL.call hasF87 rfl rfl (btx s _ Z) λv w1 h=>?_;obtain ⟨rfl,o⟩:=h;have a:=a.ta o;have b:=b.k0 o;have e:=e.k0 o;refine za rfl (zz (V (Sr λ_ U=>zg e rfl ?_)));refine WL.call hasF180 rfl rfl (djq f g _) λv w2 h=>?_;obtain ⟨rfl,o⟩:=h;have a:=a.ta o;have b:=b.k0 o;have e:=e.k0 o;refine za rfl (zz (U (zc λ_ T=>CW.block ?_)));refine CW.oX 12 (decide (¬cZ s\/¬yZ f g)) ?_ ?_
 ·refine zS λ_ t=>zm rfl (zT rfl (zm rfl ?_));refine zb ?_ ?_<;>intro a2<;>try simp only[qs] at a2
  ·refine zv rfl (zv rfl (zt rfl rfl (za rfl (zz (t ?_)))));refine ⟨rfl,rfl,j0.g8 rfl ?_ ?_⟩
   ·first|(simp_all;done)|(by_cases q1:cZ s<;>by_cases q2:yZ f g<;>simp_all)
   exact SMg
  refine zw rfl (zm rfl (zw rfl (zT rfl (ze rfl rfl (za rfl (zz (t ?_)))))));refine ⟨rfl,rfl,j0.g8 rfl ?_ ?_⟩
  ·first|(simp_all;done)|(by_cases q1:cZ s<;>by_cases q2:yZ f g<;>simp_all)
  exact SMg
 refine zy rfl ?_ ?_<;>intro n<;>try simp only[qs] at n
 ·have d : ¬cZ s\/¬yZ f g:=by simpa using n
  refine Sr λ_ R=>za rfl (za rfl (zz (R ?_)));refine zr (zr2 rfl rfl rfl ?_);refine ⟨?_,a⟩;unfold lZ;rw[if_pos d];rfl
 have d : ¬(¬cZ s\/¬yZ f g):=n;refine CW.oX 19 (decide (0<s.na/\f=0)) ?_ ?_
 ·refine zS λ_ j=>zf rfl (zl b rfl rfl (zG rfl rfl (zm rfl ?_)));refine zb ?_ ?_<;>intro a1<;>try simp only[qs] at a1
  ·refine zw rfl (zf rfl (zw rfl (zl e rfl rfl (zw rfl (zq rfl rfl (zt rfl rfl (za rfl (zz (j ?_)))))))));refine ⟨rfl,rfl,j0.g8 rfl ?_ ?_⟩
   ·first|(simp;omega)|(simp_all;done)|(refine decide_eq_decide.2 ?_;omega)
   exact SMg
  refine zv rfl (zv rfl (zv rfl (ze rfl rfl (za rfl (zz (j ?_))))));refine ⟨rfl,rfl,j0.g8 rfl ?_ ?_⟩
  ·first|(simp;omega)|(simp_all;done)|(refine decide_eq_decide.2 ?_;omega)
  exact SMg
 refine zy rfl ?_ ?_<;>intro m<;>try simp only[qs] at m
 ·have r:0<s.na/\f=0:=m
  refine Sr λ_ G=>?_;refine WL.call hasF110 rfl rfl (bsj _) λv w3 h=>?_;obtain ⟨rfl,rfl⟩:=h;refine za rfl (za rfl (zz (G ?_)));refine zr (zr2 rfl rfl rfl ?_);refine ⟨?_,a⟩;unfold lZ;rw[if_neg d,if_pos (.inl r)];rfl
 have r : ¬(0<s.na/\f=0):=m;refine Sr λ_ F=>zf rfl (zl e rfl rfl (zN rfl rfl (za rfl (zz (F ?_)))));refine zy rfl ?_ ?_<;>intro a5<;>try simp only[qs] at a5
 ·have k : ¬g=0:=by omega
  refine Sr λ_ D=>za rfl (za rfl (zz (D ?_)));refine zr (zr2 rfl rfl rfl ?_);refine ⟨?_,a⟩;unfold lZ;rw[if_neg d,if_neg (λq=>q.elim (λq=>r q) (λq=>k q.2.2)),if_neg (λq=>k q.2),if_neg (λq=>k q.2)];rfl
 have k:g=0:=by omega
 refine CW.oX 33 (decide (0<s.up/\0<s.dn)) ?_ ?_
 ·refine zS λ_ i=>zf rfl (zl b rfl rfl (zG rfl rfl (zm rfl ?_)));refine zb ?_ ?_<;>intro a0<;>try simp only[qs] at a0
  ·refine zw rfl (zf rfl (zw rfl (zl b rfl rfl (zw rfl (zG rfl rfl (zt rfl rfl (za rfl (zz (i ?_)))))))));refine ⟨rfl,rfl,j0.g8 rfl ?_ ?_⟩
   ·first|(simp;omega)|(simp_all;done)|(refine decide_eq_decide.2 ?_;omega)
   exact SMg
  refine zv rfl (zv rfl (zv rfl (ze rfl rfl (za rfl (zz (i ?_))))));refine ⟨rfl,rfl,j0.g8 rfl ?_ ?_⟩
  ·first|(simp;omega)|(simp_all;done)|(refine decide_eq_decide.2 ?_;omega)
  exact SMg
 refine zy rfl ?_ ?_<;>intro l<;>try simp only[qs] at l
 ·have p:0<s.up/\0<s.dn:=l
  refine Sr λ_ C=>?_;refine WL.call hasF110 rfl rfl (bsj _) λv w4 h=>?_;obtain ⟨rfl,rfl⟩:=h;refine za rfl (za rfl (zz (C ?_)));refine zr (zr2 rfl rfl rfl ?_);refine ⟨?_,a⟩;unfold lZ;rw[if_neg d,if_pos (.inr ⟨p.1,p.2,k⟩)];rfl
 have p : ¬(0<s.up/\0<s.dn):=l;refine Sr λ_ B=>zf rfl (zl b rfl rfl (zG rfl rfl (za rfl (zz (B ?_)))));refine zy rfl ?_ ?_<;>intro a4<;>try simp only[qs] at a4
 ·have O:0<s.up:=by omega
  refine Sr λ_ A=>?_;refine WL.call hasF182 rfl rfl (djj _ _) λv w5 h=>?_;obtain ⟨rfl,rfl⟩:=h;rw[if_neg (show ¬false=true by decide)];refine za rfl (za rfl (zz (A ?_)));refine zr (zr2 rfl rfl rfl ?_);refine ⟨?_,a⟩;unfold lZ;rw[if_neg d,if_neg (λq=>q.elim (λq=>r q) (λq=>p ⟨q.1,q.2.1⟩)),if_pos ⟨O,k⟩];rfl
 have O : ¬0<s.up:=by omega
 refine Sr λ_ z=>zf rfl (zl b rfl rfl (zG rfl rfl (za rfl (zz (z ?_)))));refine zy rfl ?_ ?_<;>intro a3<;>try simp only[qs] at a3
 ·have Y:0<s.dn:=by omega
  refine Sr λ_ y=>?_;refine WL.call hasF182 rfl rfl (djj _ _) λv w6 h=>?_;obtain ⟨rfl,rfl⟩:=h;rw[if_pos (show true=true from rfl)];refine za rfl (za rfl (zz (y ?_)));refine zr (zr2 rfl rfl rfl ?_);refine ⟨?_,a⟩;unfold lZ;rw[if_neg d,if_neg (λq=>q.elim (λq=>r q) (λq=>p ⟨q.1,q.2.1⟩)),if_neg (λq=>O q.1),if_pos ⟨Y,k⟩];rfl
 have Y : ¬0<s.dn:=by omega
 refine zkk (T (Sr λ_ x=>za rfl (za rfl (zz (x ?_)))));refine zr (zr2 rfl rfl rfl ?_);refine ⟨?_,a⟩;unfold lZ;rw[if_neg d,if_neg (λq=>q.elim (λq=>r q) (λq=>p ⟨q.1,q.2.1⟩)),if_neg (λq=>O q.1),if_neg (λq=>Y q.1)];rfl
theorem cax(s:SP)(mode:Int)(w:World)(D:s.le 1000000000000000):Ret Tryz.prog 105 [.agg [.int .i64 (s.na:Int),.int .i64 (s.up:Int),.int .i64 (s.dn:Int),.int .i64 (s.mi:Int),.int .i64 (s.pl:Int),.int .i64 (s.al:Int)].toArray,.int .i64 mode] w λu w'=>u = .float .f64 (adq s mode)/\Chg [] w w':=by
 have z:=D;obtain ⟨T,R,Q,O,M,J⟩:=D;have b:=crf w;refine zE2 Tryz.func105 rfl ?_;refine Sr λ_ t=>?_;refine zBh rfl rfl rfl b λb2 I a G F m b=>?_;refine za rfl (zz (t (Sr λ_ r=>zg a rfl ?_)));refine WL.call hasF87 rfl rfl (btx s _ z) λv Z d=>?_;obtain ⟨rfl,H⟩:=d;have b:=b.ta H;have a:=a.k0 H;refine za rfl (zz (r (Sr λ_ p=>zf rfl (zl a rfl rfl (zf rfl (zl a rfl rfl ?_))))));refine WL.ev (Ev.dX rfl rfl oO) rfl ?_;refine zf rfl (zl a rfl rfl ?_);refine WL.ev (Ev.dX rfl rfl oO) rfl ?_;refine zf rfl (zl a rfl rfl ?_);refine WL.ev (Ev.dX rfl rfl oO) rfl ?_;refine za rfl (zz (p (zc λ_ o=>CW.block ?_)));refine CW.oX 20 (decide (¬cZ s\/s.al=s.na+s.up+s.dn)) ?_ ?_
 ·refine zS λ_ g=>zm rfl (zT rfl (zm rfl ?_));refine zb ?_ ?_<;>intro A<;>try simp only[qs] at A
  ·refine zv rfl (zv rfl (zt rfl rfl (za rfl (zz (g ?_)))));refine ⟨rfl,rfl,j0.g8 rfl ?_ ?_⟩
   ·first|(simp_all;done)|(by_cases q1:cZ s<;>simp_all<;>omega)
   exact SMg
  refine zw rfl (zm rfl (zw rfl (zq rfl rfl (ze rfl rfl (za rfl (zz (g ?_)))))));refine ⟨rfl,rfl,j0.g8 rfl ?_ ?_⟩
  ·first|(simp_all;done)|(by_cases q1:cZ s<;>simp_all<;>omega)
  exact SMg
 refine zy rfl ?_ ?_<;>intro f<;>try simp only[qs] at f
 ·have e : ¬cZ s\/s.al=s.na+s.up+s.dn:=by simpa using f
  refine Sr λ_ n=>?_;refine WL.call hasF183 rfl rfl (bfj _ _) λv Y d=>?_;obtain ⟨rfl,rfl⟩:=d;rw[if_neg (show ¬false=true by decide)];refine za rfl (zz (n ?_));refine zr (zr1 rfl rfl ?_);refine ⟨?_,b⟩;unfold adq;rw[if_neg (λq=>by rcases e with e|e;exact e q.1;have:=q.2.1;omega)]
 have e : ¬(¬cZ s\/s.al=s.na+s.up+s.dn):=f;have y:cZ s:=Classical.byContradiction λq=>e (.inl q);have x:=y;unfold cZ at x;have kA:s.al≠s.na+s.up+s.dn:=λq=>e (.inr q);refine Sr λ_ l=>zf rfl (zl a rfl rfl (zm rfl (zq rfl rfl (za rfl (zz (l ?_))))));refine zy rfl ?_ ?_<;>intro C<;>try simp only[qs] at C
 ·refine Sr λ_ k=>?_
  refine WL.call hasF183 rfl rfl (bfj _ _) λv X d=>?_;obtain ⟨rfl,rfl⟩:=d;rw[if_pos (show true=true from rfl)];refine za rfl (zz (k ?_));refine zr (zr1 rfl rfl ?_);refine ⟨?_,b⟩;unfold adq;rw[if_pos ⟨y,by omega,.inl oO⟩]
 refine Sr λ_ j=>zf rfl (zl a rfl rfl (zm rfl (zq rfl rfl (za rfl (zz (j ?_))))));refine zy rfl ?_ ?_<;>intro B<;>try simp only[qs] at B
 ·refine Sr λ_ i=>?_
  refine WL.call hasF183 rfl rfl (bfj _ _) λv V d=>?_;obtain ⟨rfl,rfl⟩:=d;rw[if_neg (show ¬false=true by decide)];refine za rfl (zz (i ?_));refine zr (zr1 rfl rfl ?_);refine ⟨?_,b⟩;unfold adq;rw[if_neg (λq=>by have:=q.2.2;omega)]
 refine zkk (o (Sr λ_ h=>zm rfl (zq rfl rfl ?_)));refine WL.call hasF183 rfl rfl (bfj _ _) λv U d=>?_;obtain ⟨rfl,rfl⟩:=d;refine za rfl (zz (h ?_));refine zr (zr1 rfl rfl ?_);refine ⟨?_,b⟩;unfold adq
 by_cases q3:mode=3
 · rw[if_pos (decide_eq_true q3),if_pos ⟨y,by omega,.inr ⟨by omega,q3⟩⟩]
 rw[if_neg (show ¬decide (mode=3)=true by simpa using q3),if_neg (λq=>by have:=q.2.2;omega)]
end
namespace Sx
open Go
def ahj(P:Program)(ops:Array Oper)(K:KK)(S:World->Prop)(fuel:Nat)(listed:Array Bool)(n:Nat)(D:List Deferred)(s:Sl)(w:World)(i:Nat):Prop:=
  ∀ a,Fr n D s a->wpOp P ops (post n K) i (λa' w'=>S w'/\wpAnyH P .any ops (post n K) S fuel (listed.setIfInBounds i true) a' w') a w
section
variable {P:Program} {A:AQ} {n:Nat} {D:List Deferred} {s:Sl} {w:World} {ops:Array Oper} {K:KK} {S:World->Prop} {fuel:Nat} {listed:Array Bool}
variable {op:Op} {ty:TypeId} {pos:String} {af:Array Edge} {d:Nat} {v:Value}
theorem WH.c4q(i j:Nat)(b:Region.ready .any ops listed=[i,j])(e:ahj P ops K S fuel listed n D s w i)(d:ahj P ops K S fuel listed n D s w j):WH P ops K S (fuel+1) listed n D s w:=λa ha=>
  wpAnyH_all b oS λk hk=>by
    rcases (by simpa using hk:k=i\/k=j) with rfl|rfl
    · exact e a ha
    · exact d a ha
theorem ahj.call(i:Nat){f:FuncId}{xs:List Operand}{at_:Array TypeId}{vs:List Value}{R:Value->World->Prop}(g:ops[i]?=some ⟨some d,.call ⟨.value (.func f),xs.toArray,at_⟩,ty,pos,af,none⟩)(hF:aQ P f)(b:bcx s xs=some vs)(j:Nat.blt d n=true)(h:Ret P f vs w R)
  (k : ∀ v w',R v w'->S w'/\WH P ops K S fuel (listed.setIfInBounds i true) n D ((d,v)::s) w'):ahj P ops K S fuel listed n D s w i:=λa ha=>by
 unfold wpOp;simp only[g];rw[if_pos (by simp[Region.wanted])];refine .inl ?_;unfold Oper.wp;rw[a9x hF rfl b λx u b=>ha.eval b];exact Calls.mono h λe w' ⟨v,he,hR⟩=>by subst he;exact ⟨(k v w' hR).1,(k v w' hR).2 _ (ha.put j v)⟩
theorem ahj.one(i:Nat){w':World}(b:ops[i]?=some ⟨some d,op,ty,pos,af,none⟩)(e:Ev P s op ty w v w')(g:S w')(f:Nat.blt d n=true)
    (k:WH P ops K S fuel (listed.setIfInBounds i true) n D ((d,v)::s) w'):ahj P ops K S fuel listed n D s w i:=λa ha=>by
  unfold wpOp
  simp only[b]
  rw[if_pos (by simp[Region.wanted])]
  refine .inl ?_
  unfold Oper.wp
  rw[e a.eval (some d) pos af none λx u hx=>ha.eval hx]
  exact ⟨g,k _ (ha.put f v)⟩
theorem ahj.buildSlice(i:Nat){f:World}{t e:TypeId}{A:TypeDesc}{o h a B:Nat}{z ze:Value}{j:List (Nat×Operand)}{vs:List (Nat×Value)}{cs:List Value}{m:Nat}[hT:aJ P t (.slice e) o h z][hE:aJ P e A a B ze]
    (u:ops[i]?=some ⟨some d,.buildSlice t m j.toArray,ty,pos,af,none⟩) (l:Chg [] f w)
    (r:m*a<=2^24) (q:0<m*a) (p:boj s j=some vs) (v:Instr.fill (λi=>some (i*a,a)) ((Array.range (m*a)).map (ze.cells[· % ze.cells.size]!)) vs=some cs.toArray) (y:Nat.blt d n=true)
    (k : ∀ b w',New w b (.cells cs.toArray e) w'->Chg [] f w'->WH P ops K (Chg [] f) fuel (listed.setIfInBounds i true) n D ((d,.slice (some ⟨b,0,none⟩) m m)::s) w'):ahj P ops K (Chg [] f) fuel listed n D s w i:=by
  obtain ⟨b,w',x,g⟩:=aoj (P:=P) (ty:=ty) (w:=w) (t:=t) (hT:=hT) (hE:=hE) r q p v
  exact ahj.one i u x (l.trans g.chg) y (k b w' g (l.trans g.chg))
theorem WH.bhj(i:Nat){f:World}{t e:TypeId}{B:TypeDesc}{o h a C:Nat}{z ze:Value}{j:List (Nat×Operand)}{vs:List (Nat×Value)}{cs:List Value}{m:Nat}[hT:aJ P t (.slice e) o h z][hE:aJ P e B a C ze]
    (v:ops[i]?=some ⟨some d,.buildSlice t m j.toArray,ty,pos,af,none⟩) (q:Region.ready .any ops listed=[i]) (l:Chg [] f w)
    (u:m*a<=2^24) (r:0<m*a) (p:boj s j=some vs) (x:Instr.fill (λi=>some (i*a,a)) ((Array.range (m*a)).map (ze.cells[· % ze.cells.size]!)) vs=some cs.toArray) (A:Nat.blt d n=true)
    (k : ∀ b w',New w b (.cells cs.toArray e) w'->Chg [] f w'->WH P ops K (Chg [] f) fuel (listed.setIfInBounds i true) n D ((d,.slice (some ⟨b,0,none⟩) m m)::s) w'):WH P ops K (Chg [] f) (fuel+1) listed n D s w:=by
  obtain ⟨b,w',y,g⟩:=aoj (P:=P) (ty:=ty) (w:=w) (t:=t) (hT:=hT) (hE:=hE) u r p x
  exact WH.one i v q y (l.trans g.chg) A (k b w' g (l.trans g.chg))
theorem ahj.wQ(i:Nat){e:World}{t:TypeId}{q:TypeDesc}{j f:Nat}{z:Value}{l:List Value}[hT:aJ P t q j f z](o:ops[i]?=some ⟨some d,.alloc t,ty,pos,af,none⟩)(h:Chg [] e w)(m:z.cells=l.toArray)(p:Nat.blt d n=true)
    (k : ∀ b w',BK w' b t l->Chg [] w w'->w.heap.size<=b->Chg [] e w'->WH P ops K (Chg [] e) fuel (listed.setIfInBounds i true) n D ((d,.pointer (some ⟨b,0,none⟩))::s) w'):ahj P ops K (Chg [] e) fuel listed n D s w i:=by
  have a:=atj w (.cells l.toArray t)
  refine ahj.one i (v:=.pointer (some ⟨w.heap.size,0,none⟩)) (w':=w.alloc (.cells l.toArray t)) o (λρ u pos af g r=>?_) (h.trans a.chg) p (k _ _ a.at_ a.chg a.ge (h.trans a.chg))
  simp[execOp,Instr.alloc,hT.zero,newVar,newRow,m]
theorem WH.wQ(i:Nat){e:World}{t:TypeId}{r:TypeDesc}{g f:Nat}{z:Value}{l:List Value}[hT:aJ P t r g f z](o:ops[i]?=some ⟨some d,.alloc t,ty,pos,af,none⟩)(h:Region.ready .any ops listed=[i])(q:Chg [] e w)(m:z.cells=l.toArray)(p:Nat.blt d n=true)
    (k : ∀ b w',BK w' b t l->Chg [] w w'->w.heap.size<=b->Chg [] e w'->WH P ops K (Chg [] e) fuel (listed.setIfInBounds i true) n D ((d,.pointer (some ⟨b,0,none⟩))::s) w'):WH P ops K (Chg [] e) (fuel+1) listed n D s w:=λa ha=>
  wpAnyH_all h oS λj hj=>by
    obtain rfl:j=i:=by simpa using hj
    exact ahj.wQ j o q m p k a ha
theorem WH.sX(i:Nat){a:World}{t:TypeId}{H:TypeDesc}{j h:Nat}{p:Value}{b o:Nat}{l m vs:List Value}{T:TypeId}{x y:Operand}[hT:aJ P t H j h p](A:ops[i]?=some ⟨none,.store t x y,ty,pos,af,none⟩)(u:Region.ready .any ops listed=[i])(F:Chg [] a w)(B:a.heap.size<=b)
    (q:k6 s x=some (.pointer (some ⟨b,o,none⟩))) (e:k6 s y=some (.agg vs.toArray)) (r:vs.length=j) (G : ∀ v∈vs,v.oneCell'=true)
    (C:BK w b T l) (z:o+vs.length<=l.length) (g:splice l o vs=m) (k : ∀ w',BK w' b T m->Chg [b] w w'->Chg [] a w'->WH P ops K (Chg [] a) fuel (listed.setIfInBounds i true) n D s w'):WH P ops K (Chg [] a) (fuel+1) listed n D s w:=by
  subst g
  obtain ⟨w',g,f⟩:=a7x (P:=P) (ty:=ty) (t:=t) (hT:=hT) q e r G C z
  have d:Chg [] a w':=F.step f.chg λy e=>.inr (by simp only[List.mem_singleton] at e;omega)
  exact WH.oneS i A u g d (k w' f.at_ f.chg d)
end
end Sx
section
open Go Sx Wd
theorem c5j{l:List Nat}(h:W l):wd (val l)=l.take (wd (val l)).length:=by
  have a:=bZ h
  refine eaq (W_wd _) (h.take _) (by rw[List.length_take];omega) ?_
  rw[g7,ciq h _ a,Nat.mod_eq_of_lt (aX.1 (Nat.le_refl _))]
theorem dbq{l:List Nat}{k:Nat}(h:k<=l.length):(l.take k).length=k:=by rw[List.length_take];omega
structure b3q(la lb:List Nat)(i:Nat)(L:List Nat)(c:Nat):Prop where
  le:i<=max la.length lb.length\/i=max la.length lb.length+1/\c=0
  len:L.length=i
  w:W L
  c1:c<=1
  v:val L+2^(32*i)*c=val (la.take i)+val (lb.take i)
theorem b3q.zero(b a:List Nat):b3q b a 0 [] 0:=⟨.inl (Nat.zero_le _),rfl,ayx,by omega,by simp[val]⟩
theorem b3q.step{f d L:List Nat}{i c:Nat}(h:b3q f d i L c)(j:W f)(g:W d)(m:(i<f.length\/i<d.length)\/0<c):
    b3q f d (i+1) (L++[(f.getD i 0+d.getD i 0+c)%4294967296]) ((f.getD i 0+d.getD i 0+c)/2^32):=by
  have r:=j.getD i
  have o:=g.getD i
  have n:=h.c1
  refine ⟨?_,by simp[h.len],apq.2 ⟨h.w,zX.2 ⟨by omega,ayx⟩⟩,by omega,?_⟩
  · rcases h.le with q|⟨q,k⟩
    · by_cases e:i=max f.length d.length
      · right
        rw[aaj (l:=f) oO,aaj (l:=d) oO]
        exact ⟨by omega,by omega⟩
      · left;omega
    · omega
  · rw[bxj,h.len,gZ,gZ,two32]
    have:=h.v
    generalize f.getD i 0=a at *
    generalize d.getD i 0=b at *
    generalize 2^(32*i)=p at *
    have e:p*((a+b+c)%4294967296)+p*4294967296*((a+b+c)/2^32)=p*a+p*b+p*c:=by
      rw[show (2:Nat)^32=4294967296 from rfl,Nat.mul_assoc,<- Nat.mul_add,Nat.mod_add_div,Nat.mul_add,Nat.mul_add]
    omega
theorem b3q.done{b a L:List Nat}{i c:Nat}(h:b3q b a i L c)(d : ¬((i<b.length\/i<a.length)\/0<c)):val L=val b+val a:=by
  have:=h.v
  rw[List.take_of_length_le oO,List.take_of_length_le oO,show c=0 by omega] at this
  simpa using this
theorem b3q.len_le{b a L:List Nat}{i c:Nat}(h:b3q b a i L c):i<=max b.length a.length+1:=by
  rcases h.le with q|⟨q,_⟩<;>omega
structure bvq(la lb:List Nat)(i:Nat)(L:List Nat)(c:Nat):Prop where
  le:i<=la.length
  len:L.length=i
  w:W L
  c1:c<=1
  v:val L+val (lb.take i)=val (la.take i)+2^(32*i)*c
theorem bvq.zero(b a:List Nat):bvq b a 0 [] 0:=⟨Nat.zero_le _,rfl,ayx,by omega,by simp[val]⟩
theorem bvq.step{d f L:List Nat}{i c:Nat}(h:bvq d f i L c)(k:W d)(j:W f)(g:i<d.length):
    bvq d f (i+1) (L++[(d.getD i 0+4294967296-f.getD i 0-c)%4294967296]) (1-(d.getD i 0+4294967296-f.getD i 0-c)/2^32):=by
  have o:=k.getD i
  have n:=j.getD i
  have m:=h.c1
  refine ⟨g,by simp[h.len],apq.2 ⟨h.w,zX.2 ⟨by omega,ayx⟩⟩,by omega,?_⟩
  rw[bxj,h.len,gZ,gZ,two32]
  have:=h.v
  generalize d.getD i 0=a at *
  generalize f.getD i 0=b at *
  generalize 2^(32*i)=p at *
  have l:a+4294967296*(1-(a+4294967296-b-c)/2^32)=(a+4294967296-b-c)%4294967296+b+c:=by omega
  have e:p*a+p*4294967296*(1-(a+4294967296-b-c)/2^32)=p*((a+4294967296-b-c)%4294967296)+p*b+p*c:=by
    rw[Nat.mul_assoc,<- Nat.mul_add,l,Nat.mul_add,Nat.mul_add]
  omega
theorem bvq.done{a b L:List Nat}{c:Nat}(h:bvq a b a.length L c)(i:W a)(g:W b)(f:val b<=val a):val L=val a-val b:=by
  have d:=h.v
  have j:=vZ h.w
  have l:=vZ i
  have k:=h.c1
  rw[h.len] at j
  rw[List.take_length] at d
  have e:val (b.take a.length)=val b:=by
    by_cases q:a.length<=b.length
    · rw[ciq g _ q,Nat.mod_eq_of_lt oO]
    · rw[List.take_of_length_le oO]
  rw[e] at d
  generalize 2^(32*a.length)=p at *
  have:c=0\/c=1:=by omega
  rcases this with rfl|rfl<;>omega
structure biq(la:List Nat)(b k:Nat)(Q:List Nat)(r:Nat):Prop where
  le:k<=la.length
  len:Q.length=la.length
  w:W Q
  z : ∀ j,j<k->Q.getD j 0=0
  rl:r<b
  v:val (la.drop k)=val (Q.drop k)*b+r
theorem biq.zero(a:List Nat){b:Nat}(d:0<b):biq a b a.length (List.replicate a.length 0) 0:=by
  refine ⟨Nat.le_refl _,by simp,oJ _,λj _=>axx _ _,d,?_⟩
  rw[List.drop_length,List.drop_eq_nil_of_le oS]
  simp[val]
theorem biq.bound{a Q:List Nat}{b k r:Nat}(h:biq a b k Q r)(d:W a):a.getD (k-1) 0+4294967296*r<b*4294967296:=by
  have f:=d.getD (k-1)
  have e:=h.rl
  have:(r+1)*4294967296<=b*4294967296:=Nat.mul_le_mul_right _ e
  omega
theorem biq.step{a Q:List Nat}{b k r:Nat}(h:biq a b k Q r)(s:W a)(u:0<k):
    biq a b (k-1) (Q.set (k-1) ((a.getD (k-1) 0+4294967296*r)/b)) ((a.getD (k-1) 0+4294967296*r)-b*((a.getD (k-1) 0+4294967296*r)/b)):=by
  have p:=h.le
  have g:=h.len
  have f:=h.bound s
  obtain ⟨i,rfl⟩ : ∃ i,k=i+1:=⟨k-1,by omega⟩
  rw[show i+1-1=i by omega] at *
  have d:0<b:=Nat.lt_of_le_of_lt (Nat.zero_le _) h.rl
  have q:=uQ (l:=a) (i:=i) oO
  have m:=h.v
  generalize hx:a.getD i 0+4294967296*r=x at *
  have n:x/b<4294967296:=(Nat.div_lt_iff_lt_mul d).2 (by rw[Nat.mul_comm];exact f)
  have t:=Nat.div_add_mod x b
  have o:=Nat.mod_lt x d
  refine ⟨by omega,by simp[h.len],h.w.set _ n,λj y=>?_,by omega,?_⟩
  · rw[Wd.getD_set_ne (i:=i) (j:=j) oO];exact h.z j oO
  · have e:=uQ (l:=Q.set i (x/b)) (i:=i) (by rw[List.length_set];omega)
    rw[Wd.yJ oO,show (Q.set i (x/b)).drop (i+1)=Q.drop (i+1) from List.drop_set_of_lt oO] at e
    rw[q,e,m,Nat.add_mul,Nat.mul_add,Nat.mul_assoc]
    have:x/b*b=b*(x/b):=Nat.mul_comm _ _
    omega
theorem biq.stay{a Q:List Nat}{b k r:Nat}(h:biq a b k Q r)(s:W a)(p:0<k)(d:a.getD (k-1) 0+4294967296*r<b):
    biq a b (k-1) Q (a.getD (k-1) 0+4294967296*r):=by
  have m:=h.le
  have e:=h.len
  obtain ⟨i,rfl⟩ : ∃ i,k=i+1:=⟨k-1,by omega⟩
  rw[show i+1-1=i by omega] at *
  have o:=uQ (l:=a) (i:=i) oO
  have n:=uQ (l:=Q) (i:=i) oO
  have g:=h.v
  have f:=h.z i oO
  refine ⟨by omega,h.len,h.w,λj q=>h.z j oO,d,?_⟩
  rw[o,n,g,f,Nat.zero_add,Nat.mul_add,Nat.mul_assoc]
  omega
theorem biq.done{a Q:List Nat}{b r:Nat}(h:biq a b 0 Q r):val Q=val a/b/\r=val a%b:=by
  have d:=h.v
  have e:=h.rl
  rw[List.drop_zero,List.drop_zero] at d
  rw[d,Nat.mul_comm]
  exact ⟨by rw[Nat.mul_add_div oO,Nat.div_eq_of_lt e,Nat.add_zero],by rw[Nat.mul_add_mod,Nat.mod_eq_of_lt e]⟩
theorem tz_bits{n:Nat}(h:n≠0):n.testBit (tz n)=true/\∀ j,j<tz n->n.testBit j=false:=by
  obtain ⟨b,a⟩:=akj h
  refine ⟨by rw[Nat.testBit_eq_decide_div_mod_eq];exact decide_eq_true b,λj d=>?_⟩
  rw[Nat.testBit_eq_decide_div_mod_eq]
  refine decide_eq_false ?_
  have e:n/2^j=n/2^tz n*2^(tz n-j-1)*2:=by
    conv=>lhs;rw[a]
    rw[show (2:Nat)^tz n=2^(tz n-j-1)*2*2^j by rw[<- Nat.pow_succ,<- Nat.pow_add];congr 1;omega,<- Nat.mul_assoc,Nat.mul_div_cancel _ (Nat.two_pow_pos j),Nat.mul_assoc,Nat.mul_assoc]
  rw[e,Nat.mul_mod_left]
  decide
theorem bl_half{x:Nat}(h:x≠0):bl x=bl (x/2)+1:=by
  by_cases h1:x=1
  · subst h1;decide
  · have:=b2q (x:=x) (k:=1) oO
    rw[this];simp[Nat.add_comm]
theorem val_zeros(k:Nat)(l:List Nat):val (List.replicate k 0++l)=val l*2^(32*k):=by
  rw[azq,agx,List.length_replicate,Nat.zero_add,Nat.mul_comm]
def Fh(w0:World)(v:Value):Prop:=∀ ad m c,v = .slice (some ad) m c->w0.heap.size<=ad.block
def Av(b:Nat)(v:Value):Prop:=∀ ad m c,v = .slice (some ad) m c->ad.block≠b
theorem Fh.mono{b a:World}{v:Value}(h:Fh a v)(d:b.heap.size<=a.heap.size):Fh b v:=λad m c e=>Nat.le_trans d (h ad m c e)
theorem Fh.av{a:World}{v:Value}{b:Nat}(h:Fh a v)(d:b<a.heap.size):Av b v:=λad m c e=>by
  have:=h ad m c e
  omega
theorem Fh.nil{a:World}{m c:Nat}: Fh a (.slice none m c):=λad m c e=>by cases e
theorem Av.nil{b m c:Nat}: Av b (.slice none m c):=λad m c e=>by cases e
theorem GR.fh{w a:World}{e:TypeId}{f:Nat->Value}{X:List Nat}{v:Value}{l:List Nat}{lo:Nat}(h:GR w e f lo X v l)(b:a.heap.size<=lo):Fh a v:=λad m c e=>by
  subst e
  have:=(h.2 ad.block rfl).1
  omega
theorem NU.keepOB{w w':World}{v:Value}{l:List Nat}{b:Nat}{E:TypeId}{d:List Nat}(h:NU w v l)(o:OB w b E d)(g:Chg [b] w w')(f:Av b v):NU w' v l:=by
  obtain ⟨⟨a,c,rfl,m,k⟩,j,i⟩:=h
  exact ⟨⟨a,c,rfl,m,k.keepB g λn e=>by subst e;have:=f n _ _ rfl;simpa using this⟩,j,i⟩
theorem bjx{a b:Nat}: sgn a b<=0↔a<=b:=by unfold sgn;split<;>(try split)<;>omega
theorem dfx{a b:Nat}: 0<=sgn a b↔b<=a:=by unfold sgn;split<;>(try split)<;>omega
theorem bmx{a b:Nat}: sgn a b=0↔a=b:=by unfold sgn;split<;>(try split)<;>omega
theorem len_up{x v k:Nat}(h:x<v*4294967296)(a:v<2^(32*k)):(wd x).length<=k+1:=
  aX.2 (Nat.lt_of_lt_of_le h (by rw[two32];exact Nat.mul_le_mul_right _ (Nat.le_of_lt a)))
theorem crx(m:Nat)(h:m<4294967296):val [m]=m:=by simp[val]
structure K0s(l:List Nat)(w:World)(k:Nat)(wr:World):Prop where
  le:k<=l.length
  vl:val (l.take k)=val l
  eq:w=wr
theorem a3j(v:Value)(l:List Nat)(w:World)(h:NU w v l):Ret Tryz.prog 233 [v] w λu w'=>u = .int .i64 ((wd (val l)).length:Int)/\w=w':=by
 obtain ⟨⟨z,y,rfl,r,e⟩,g,x⟩:=h;have f:=crf w;refine zE1 Tryz.func233 rfl ?_;refine Sr λ_ p=>za rfl (zz (p (Sr λ_ o=>zm rfl (zn rfl (za rfl (zz (o (zc λ_ n=>CW.block ?_))))))));refine CW.loop (S:=λk:Nat=>[(0,.slice z l.length y),(3,.int .i64 (k:Int))]) (Inv:=K0s l w) (mu:=λk=>k) (l.length) ?_ ?_ ?_
 ·exact ⟨Nat.le_refl _,by rw[List.take_length],rfl⟩
 ·exact SLp
 rintro k _ ⟨a,d,rfl⟩;refine zc λ_ m=>?_;refine CW.oX 15 (decide (0<k/\l.getD (k-1) 0=0)) ?_ ?_
 ·refine zS λ_ b=>zm rfl (zG rfl rfl (zm rfl ?_));refine zb ?_ ?_<;>intro q<;>try simp only[qs] at q
  ·refine zw rfl (zm rfl (zw rfl (zm rfl (zw rfl ?_))))
   first|refine WL.ev (Ev.dX rfl rfl oO) rfl ?_|refine WL.ev (Ev.sub rfl rfl) rfl ?_
   refine zw rfl ?_;refine WL.ev (Ev.ixR ((k-1)) rfl rfl (e.q8 f) oO oO oT) rfl ?_;refine zw rfl ?_;refine WL.ev (Ev.load rfl rfl ((e.q8 f).u32 oF)) rfl ?_;have t:=g.getD ((k-1));refine zw rfl (zq rfl rfl (zt rfl rfl (zz (b ?_))));refine ⟨rfl,rfl,j0.g8 rfl ?_ ?_⟩
   ·first|(simp;omega)|(refine decide_eq_decide.2 ?_;omega)
   exact SMg
  refine zv rfl (zv rfl (zv rfl (zv rfl (zv rfl (zv rfl (ze rfl rfl (zz (b ?_))))))));refine ⟨rfl,rfl,j0.g8 rfl ?_ ?_⟩
  ·first|(simp;omega)|(refine decide_eq_decide.2 ?_;omega)
  exact SMg
 refine zy rfl ?_ ?_<;>intro s<;>try simp only[qs] at s
 ·refine zkk (m (CW.block (zS λ_ i=>zm rfl ?_)))
  first|refine WL.ev (Ev.dX rfl rfl oO) rfl ?_|refine WL.ev (Ev.sub rfl rfl) rfl ?_
  refine za rfl (zz (i ?_));refine ⟨rfl,k-1,?_,?_,?_⟩
  ·exact SLp
  ·exact ⟨by omega,by rw[b4j a oO oO];exact d,rfl⟩
  omega
 refine CW.exit ?_;refine n (Sr λ_ j=>zm rfl (za rfl (zz (j ?_))));refine zr (zr1 rfl rfl ?_);rw[cut_wd g a d oO,dbq a];exact ⟨rfl,rfl⟩
theorem wZ(v:Value)(l:List Nat)(w:World)(h:NU w v l)(t:(wd (val l)).length<=35184372088832):Ret Tryz.prog 224 [v] w λu w'=>NU w' u (wd (val l))/\Chg [] w w'/\Fh w u:=by
 have q:=h;obtain ⟨⟨C,H,rfl,y,r⟩,d,z⟩:=h;have b:=crf w;obtain ⟨k,j⟩ : ∃ k,k=(wd (val l)).length:=⟨_,rfl⟩;have e:k<=l.length:=by rw[j];exact bZ d
 have p:wd (val l)=l.take k:=by rw[j];exact c5j d
 rw[<- j] at t;have A:=dbq e;refine zE1 Tryz.func224 rfl ?_;refine Sr λ_ o=>za rfl (zz (o (Sr λ_ n=>za rfl (zz (n (Sr λ_ m=>zm rfl (zm rfl (zm rfl ?_))))))));refine WL.call hasF233 rfl rfl (a3j _ _ _ q) λv F B=>?_;obtain ⟨rfl,rfl⟩:=B;rw[<- j];refine WL.ev (Ev.c6j (k) rfl rfl rfl oO) rfl ?_;have s:RW w C ((l.take k).map kZ):=by rw[List.map_take];exact r.take k
 refine WL.c1j (f:=kZ) (lo:=w.heap.size) (X:=[]) (l:=[]) (news:=(l.take k)) (by rfl) (λi=>rfl) rfl rfl GR.nil (by first|rfl|(simp;done)|(simp;omega)|omega) (s.q8 b) (by first|omega|exact b.size|exact Nat.le_refl _) oS (by simp only[List.length_append,List.length_cons,List.length_nil];omega) (by simp only[List.length_append,List.length_cons,List.length_nil];omega) rfl λG D x g=>?_;have b:=b.trans (Chg.any (by simpa[Value.ownBlock] using g));have a:=x;rw[show ([]++(l.take k))=(l.take k) from by rfl] at a;refine za rfl (zz (m ?_));refine zr (zr1 rfl rfl ?_);rw[p];exact ⟨a.nu (d.take k) oO,b,a.fh (Nat.le_refl _)⟩
theorem bnx(n:Nat)(w:World)(z:n<18446744073709551616):Ret Tryz.prog 159 [.int .u64 (n:Int)] w λu w'=>NU w' u (wd n)/\Chg [] w w'/\Fh w u:=by
 have a:=crf w;refine zE1 Tryz.func159 rfl ?_;refine Sr λ_ k=>za rfl (zz (k (zc λ_ j=>?_)));have l:val [n%4294967296,n/2^32%4294967296]=n:=by simp only[val];omega
 have h:W [n%4294967296,n/2^32%4294967296]:=zX.2 ⟨by omega,zX.2 ⟨by omega,ayx⟩⟩;have o:=bZ h;simp only[List.length_cons,List.length_nil] at o;refine zR λ_ i=>?_;refine zm rfl ?_;refine WL.ev (Ev.tJ rfl rfl) rfl ?_;refine zm rfl ?_;refine WL.ev (Ev.avx (b:=32) rfl rfl (by simp only[IntKind.bits];omega)) rfl ?_;refine WL.ev (Ev.tJ rfl rfl) rfl ?_;refine WL.buildSlice (m:=2) (cs:=[kZ ((n%4294967296)),kZ (((n/2^32)%4294967296))]) oD oD rfl oR rfl λx r d=>?_;have g:=d.chg;have f:=d.ge;have p:OB r x _ [(n%4294967296),((n/2^32)%4294967296)]:=d.at_;have e:=Nat.le_trans a.size f;have a:=a.ta g;refine WL.call hasF224 rfl rfl (wZ _ _ _ (NU.nX p h oS rfl oO) oO) λv y t=>?_;obtain ⟨q,s,hF⟩:=t;rw[l] at q;have hF:=hF.mono a.size;have a:=a.ta s;refine za rfl ?_;refine WL.nil (i _ _ _ (j ?_));refine zr (zr1 rfl rfl ?_);exact ⟨q,a,hF⟩
theorem b5j(v:Value)(l:List Nat)(w:World)(h:NU w v l)(i:Nat)(r:i<9223372036854775808):Ret Tryz.prog 232 [v,.int .i64 (i:Int)] w λu w'=>u = .int .u64 ((l.getD i 0:Nat):Int)/\w=w':=by
 obtain ⟨⟨t,s,rfl,m,a⟩,d,q⟩:=h;have b:=crf w;refine zE2 Tryz.func232 rfl ?_;refine Sr λ_ k=>za rfl (zz (k (zc λ_ j=>Sr λ_ g=>zm rfl (zm rfl (zn rfl ?_)))));refine WL.ev (Ev.geq rfl rfl) rfl ?_;refine zz (g ?_);refine zy rfl ?_ ?_<;>intro n<;>try simp only[qs] at n
 ·refine Sr λ_ f=>za rfl (zz (f ?_));refine zr (zr1 rfl rfl ?_);rw[aaj oO];exact ⟨rfl,rfl⟩
 have p:=d.getD i;refine zkk (j (Sr λ_ e=>zm rfl (zm rfl ?_)));refine WL.ev (Ev.ixR (i) rfl rfl (a.q8 b) oO oO oT) rfl ?_;refine WL.ev (Ev.load rfl rfl ((a.q8 b).u32 oF)) rfl ?_;have o:=d.getD (i);refine WL.ev (Ev.eZ rfl rfl (jX oO)) rfl ?_;refine za rfl (zz (e ?_));refine zr (zr1 rfl rfl ?_);exact ⟨rfl,rfl⟩
theorem r2Bit_spec(v:Value)(l:List Nat)(w:World)(h:NU w v l)(n:Nat)(x:n<9223372036854775808):Ret Tryz.prog 259 [v,.int .i64 (n:Int)] w λu w'=>u = .bool ((val l).testBit n)/\w=w':=by
 obtain ⟨⟨z,y,rfl,p,e⟩,g,t⟩:=h;have f:=crf w;have d:=b9j g n;refine zE2 Tryz.func259 rfl ?_;refine Sr λ_ m=>za rfl (zz (m (zc λ_ k=>?_)));refine CW.oX 13 (decide (l.length<=n/32)) ?_ ?_
 ·refine zS λ_ a=>zm rfl (zL rfl rfl (zm rfl ?_));refine zb ?_ ?_<;>intro o<;>try simp only[qs] at o
  ·refine zv rfl (zv rfl (zv rfl (zv rfl (zv rfl (zt rfl rfl (zz (a ?_)))))));refine ⟨rfl,rfl,j0.g8 rfl ?_ ?_⟩
   ·first|(exfalso;omega)|(simp;omega)|(refine decide_eq_decide.2 ?_;omega)
   exact SMg
  refine zw rfl (zm rfl (zw rfl ?_));refine WL.ev (Ev.b1x (b:=32) rfl rfl oO (by simp only[IntKind.max,IntKind.signed,IntKind.bits];omega) oO) rfl ?_;rw[show (n:Int)/32=((n/32:Nat):Int) by omega];refine zw rfl (zm rfl (zw rfl (zn rfl (zw rfl ?_))));refine WL.ev (Ev.geq rfl rfl) rfl ?_;refine ze rfl rfl (zz (a ?_));refine ⟨rfl,rfl,j0.g8 rfl ?_ ?_⟩
  ·first|(exfalso;omega)|(simp;omega)|(refine decide_eq_decide.2 ?_;omega)
  exact SMg
 refine zy rfl ?_ ?_<;>intro q<;>try simp only[qs] at q
 ·refine Sr λ_ j=>za rfl (zz (j ?_));refine zr (zr1 rfl rfl ?_);refine ⟨?_,rfl⟩;rw[d,aaj oO];simp
 refine zkk (k (Sr λ_ i=>zm rfl (zm rfl ?_)));refine WL.ev (Ev.b1x (b:=32) rfl rfl oO (by simp only[IntKind.max,IntKind.signed,IntKind.bits];omega) oO) rfl ?_;rw[show (n:Int)/32=((n/32:Nat):Int) by omega];refine WL.ev (Ev.ixR ((n/32)) rfl rfl (e.q8 f) oO oO oT) rfl ?_;refine WL.ev (Ev.load rfl rfl ((e.q8 f).u32 oF)) rfl ?_;have r:=g.getD ((n/32));refine zm rfl ?_;refine WL.ev (Ev.dhq (b:=32) rfl rfl oO oO) rfl ?_;rw[show (n:Int)%32=((n%32:Nat):Int) by omega];refine WL.ev (Ev.avx rfl rfl (by simp only[IntKind.bits];omega)) rfl ?_;have s:l.getD (n/32) 0/2^(n%32)<=l.getD (n/32) 0:=Nat.div_le_self _ _;refine WL.ev (Ev.andU (b:=1) rfl rfl rfl (by simp only[IntKind.bits];omega) (by simp only[IntKind.bits];omega)) rfl ?_;rw[Nat.and_one_is_mod];refine zq rfl rfl (za rfl (zz (i ?_)));refine zr (zr1 rfl rfl ?_);refine ⟨?_,rfl⟩;rw[d]
 congr 1
 refine decide_eq_decide.2 ?_;omega
structure KLns(x0 B:Nat)(w:World)(g:Nat×Nat)(wr:World):Prop where
  le:g.1<=x0
  eq:g.2+bl g.1=B
  w_:w=wr
theorem bbq(v:Value)(l:List Nat)(w:World)(h:NU w v l)(a4:l.length<=35184372088832):Ret Tryz.prog 223 [v] w λu w'=>u = .int .i64 (bl (val l):Int)/\w=w':=by
 have i:=h;obtain ⟨⟨al,cl,rfl,T,B⟩,a,a5⟩:=h;have D:=crf w;obtain ⟨k,F⟩ : ∃ k,k=(wd (val l)).length:=⟨_,rfl⟩;have C:k<=l.length:=by rw[F];exact bZ a
 have A:wd (val l)=l.take k:=by rw[F];exact c5j a
 have Q:=g7 (val l);have a3:=a1x (n:=val l);have f:=dbq C;refine zE1 Tryz.func223 rfl ?_;refine Sr λ_ M=>za rfl (zz (M (Sr λ_ J=>zm rfl ?_)));refine WL.call hasF233 rfl rfl (a3j _ _ _ i) λv w1 h'=>?_;obtain ⟨rfl,rfl⟩:=h';rw[<- F];refine za rfl (zz (J (zc λ_ I=>Sr λ_ H=>zm rfl (zq rfl rfl (zz (H ?_))))));refine zy rfl ?_ ?_<;>intro V<;>try simp only[qs] at V
 ·refine Sr λ_ G=>za rfl (zz (G ?_));refine zr (zr1 rfl rfl ?_);have i:val l=0:=by omega
  rw[i];exact ⟨rfl,rfl⟩
 have d:=cix (show val l≠0 by omega);rw[<- F,A] at d;have R:(l.take k).getD (k-1) 0=l.getD (k-1) 0:=by rw[List.getD_eq_getElem?_getD,List.getD_eq_getElem?_getD,List.getElem?_take,if_pos oO]
 have X:=bl_val (a.take k) (λe=>by rw[e] at f;simp at f;omega) (by rw[f];exact d);rw[f,R,<- A,Q] at X;have a0:=vQ.2 (show l.getD (k-1) 0<2^32 from a.getD _);refine zkk (I (Sr λ_ z=>zm rfl ?_))
 first|refine WL.ev (Ev.dX rfl rfl oO) rfl ?_|refine WL.ev (Ev.sub rfl rfl) rfl ?_
 refine WL.ev (Ev.c1q rfl rfl oO) rfl ?_;refine za rfl (zz (z (zc λ_ y=>Sr λ_ t=>zm rfl (zm rfl ?_))))
 first|refine WL.ev (Ev.dX rfl rfl oO) rfl ?_|refine WL.ev (Ev.sub rfl rfl) rfl ?_
 refine WL.ev (Ev.ixR ((k-1)) rfl rfl (B.q8 D) oO oO oT) rfl ?_;refine WL.ev (Ev.load rfl rfl ((B.q8 D).u32 oF)) rfl ?_;have Y:=a.getD ((k-1));refine za rfl (zz (t (CW.block ?_)));refine CW.loop (S:=λg:Nat×Nat=>[(4,.int .i64 (g.2:Int)),(5,.int .u32 (g.1:Int))]) (Inv:=KLns (l.getD (k-1) 0) (bl (val l)) w) (mu:=λg=>g.1) ((l.getD (k-1) 0,32*(k-1))) ?_ ?_ ?_
 ·exact ⟨Nat.le_refl _,by dsimp only;omega,rfl⟩
 ·exact SLp
 rintro ⟨x,q⟩ _ ⟨hx,Z,rfl⟩;dsimp only at hx Z;dsimp only;have a2:=a.getD (k-1);refine zc λ_ s=>Sr λ_ r=>zm rfl (zG rfl rfl (zz (r ?_)));refine zy rfl ?_ ?_<;>intro U<;>try simp only[qs] at U
 ·refine zkk (s (zc λ_ p=>CW.block ?_));refine zR λ_ m=>?_
  refine zm rfl ?_;(first|refine zi rfl rfl ?_|refine zo rfl rfl ?_);refine za rfl ?_;refine WL.nil (m _ _ _ (p ?_));refine zS λ_ j=>zm rfl ?_;refine WL.ev (Ev.dlq (b:=2) rfl rfl oO (in_u32 oO).2) rfl ?_;refine za rfl (zz (j ?_));refine ⟨rfl,(x/2,q+1),?_,?_,?_⟩
  ·exact SLp
  ·exact ⟨by dsimp only;omega,by dsimp only;have:=bl_half (x:=x) oO;omega,rfl⟩
  show x/2<x;omega
 refine CW.exit ?_;refine y (Sr λ_ o=>zm rfl (za rfl (zz (o ?_))));refine zr (zr1 rfl rfl ?_);have O:x=0:=by omega
 rw[O,bl_zero] at Z;exact ⟨by first|rfl|(congr 1;omega),rfl⟩
structure KLws(n:Nat)(w:World)(i:Nat)(wr:World):Prop where
  le:i<=tz n
  w_:w=wr
theorem r2Low_spec(v:Value)(l:List Nat)(w:World)(h:NU w v l)(Q:l.length<=35184372088832):Ret Tryz.prog 238 [v] w λu w'=>u = .int .i64 (tz (val l):Int)/\w=w':=by
  have a:=h;obtain ⟨⟨V,U,rfl,D,M⟩,s,R⟩:=h;have T:=crf w;obtain ⟨k,I⟩ : ∃ k,k=(wd (val l)).length:=⟨_,rfl⟩;have H:k<=l.length:=by rw[I];exact bZ s
  have O:=a1x (n:=val l);refine zE1 Tryz.func238 rfl ?_;refine Sr λ_ A=>za rfl (zz (A (zc λ_ z=>Sr λ_ y=>zm rfl ?_)));refine WL.call hasF233 rfl rfl (a3j _ _ _ a) λv Y G=>?_;obtain ⟨rfl,rfl⟩:=G;rw[<- I];refine zq rfl rfl (zz (y ?_));refine zy rfl ?_ ?_<;>intro F<;>try simp only[qs] at F
  · refine Sr λ_ x=>za rfl (zz (x ?_));refine zr (zr1 rfl rfl ?_);have a:val l=0:=by omega
    rw[a,tz_zero];exact ⟨rfl,rfl⟩
  have o:val l≠0:=by omega
  obtain ⟨C,B⟩:=tz_bits o;have J:tz (val l)<32*l.length:=Nat.lt_of_lt_of_le (zJ o) (vQ.2 (vZ s));refine zkk (z (Sr λ_ t=>za rfl (zz (t (zc λ_ m=>CW.block ?_)))));refine CW.loop (S:=λi:Nat=>[(0,.slice V l.length U),(3,.int .i64 (i:Int))]) (Inv:=KLws (val l) w) (mu:=λi=>tz (val l)-i) (0) ?_ ?_ ?_
  · exact ⟨Nat.zero_le _,rfl⟩
  · exact SLp
  rintro i _ ⟨Z,rfl⟩;refine zc λ_ j=>Sr λ_ g=>zm rfl (zm rfl ?_);refine WL.call hasF259 rfl rfl (r2Bit_spec _ _ _ a i oO) λv X G=>?_;obtain ⟨rfl,rfl⟩:=G;refine zT rfl (zz (g ?_));refine zy rfl ?_ ?_<;>intro b<;>try simp only[qs] at b
  · have p:i+1<=tz (val l):=by
      rcases Nat.lt_or_ge i (tz (val l)) with q|q
      · exact q
      have e:i=tz (val l):=by omega
      rw[e,C] at b;simp at b
    refine zkk (j (CW.block (zS λ_ d=>zm rfl ?_)));(first|refine zi rfl rfl ?_|refine zo rfl rfl ?_);refine za rfl (zz (d ?_));refine ⟨rfl,i+1,?_,?_,?_⟩
    · exact SLp
    · exact ⟨p,rfl⟩
    show tz (val l)-(i+1)<tz (val l)-i;omega
  have r:=b;refine CW.exit ?_;refine m (Sr λ_ f=>zm rfl (za rfl (zz (f ?_))));refine zr (zr1 rfl rfl ?_);refine ⟨?_,rfl⟩;have e:i=tz (val l):=by
    rcases Nat.lt_or_ge i (tz (val l)) with q|q
    · have:=B i q
      rw[this] at r;simp at r
    omega
  rw[e]
structure KCs(A B:List Nat)(w:World)(k:Nat)(wr:World):Prop where
  le:k<=A.length
  eq:A.drop k=B.drop k
  chg:Chg [] w wr
theorem azj(va vb:Value)(l j:List Nat)(w:World)(ha:NU w va l)(hb:NU w vb j):Ret Tryz.prog 174 [va,vb] w λu w'=>u = .int .i64 (sgn (val l) (val j))/\Chg [] w w':=by
 have b9:=ha;have b8:=hb;obtain ⟨⟨a2,c3,rfl,a4,Z⟩,i,d3⟩:=ha;obtain ⟨⟨a1,c2,rfl,a3,Y⟩,h,d2⟩:=hb;have d:=crf w;obtain ⟨A,r⟩ : ∃ A,A=wd (val l):=⟨_,rfl⟩;have X:val A=val l:=by rw[r];exact g7 _
 have d5:A.length<=l.length:=by rw[r];exact bZ i
 have p:W A:=by rw[r];exact W_wd _
 have g:RW w a2 (A.map kZ):=by
  have:=c5j i;rw[<- r] at this;rw[this,List.map_take];exact Z.take _
 obtain ⟨B,q⟩ : ∃ B,B=wd (val j):=⟨_,rfl⟩;have V:val B=val j:=by rw[q];exact g7 _
 have d4:B.length<=j.length:=by rw[q];exact bZ h
 have o:W B:=by rw[q];exact W_wd _
 have f:RW w a1 (B.map kZ):=by
  have:=c5j h;rw[<- q] at this;rw[this,List.map_take];exact Y.take _
 have hs:=c7x (a:=val l) (b:=val j);rw[<- r,<- q] at hs;refine zE2 Tryz.func174 rfl ?_;refine Sr λ_ a9=>za rfl (zz (a9 (Sr λ_ a8=>zm rfl ?_)));refine WL.call hasF233 rfl rfl (a3j _ _ _ b9) λv w1 h'=>?_;obtain ⟨rfl,rfl⟩:=h';rw[<- r];refine za rfl (zz (a8 (Sr λ_ a7=>zm rfl ?_)));refine WL.call hasF233 rfl rfl (a3j _ _ _ b8) λv w2 h'=>?_;obtain ⟨rfl,rfl⟩:=h';rw[<- q];refine za rfl (zz (a7 (zc λ_ a6=>Sr λ_ a5=>zm rfl (zm rfl (zN rfl rfl (zz (a5 ?_)))))));refine zy rfl ?_ ?_<;>intro b7<;>try simp only[qs] at b7
 ·refine zc λ_ U=>Sr λ_ T=>zm rfl (zm rfl (zL rfl rfl (zz (T ?_))));refine zy rfl ?_ ?_<;>intro b6<;>try simp only[qs] at b6
  ·refine Sr λ_ R=>za rfl (zz (R ?_));refine zr (zr1 rfl rfl ?_);rw[hs.1 oO];exact ⟨rfl,d⟩
  refine zkk (U (Sr λ_ Q=>za rfl (zz (Q ?_))));refine zr (zr1 rfl rfl ?_);rw[hs.2 oO];exact ⟨rfl,d⟩
 have a0:A.length=B.length:=by omega
 refine zkk (a6 (zc λ_ O=>Sr λ_ M=>zm rfl ?_))
 first|refine WL.ev (Ev.dX rfl rfl oO) rfl ?_|refine WL.ev (Ev.sub rfl rfl) rfl ?_
 refine za rfl (zz (M (CW.block ?_)));refine CW.loop (S:=λk:Nat=>[(0,.slice a2 l.length c3),(1,.slice a1 j.length c2),(5,.int .i64 ((k:Int)-1))]) (Inv:=KCs A B w) (mu:=λk=>k) (A.length) ?_ ?_ ?_
 ·exact ⟨Nat.le_refl _,by rw[List.drop_length,a0,List.drop_length],d⟩
 ·exact SLp
 rintro k wr ⟨d8,m,d⟩;refine zc λ_ J=>Sr λ_ I=>zm rfl ?_;refine WL.ev (Ev.geq rfl rfl) rfl ?_;refine zz (I ?_);refine zy rfl ?_ ?_<;>intro b5<;>try simp only[qs] at b5
 ·have b1:k-1+1=k:=by omega
  have e:=dfq p o a0 (k:=k-1) oO (by rw[b1];exact m);rw[X,V] at e;refine zkk (J (zc λ_ H=>CW.block (zc λ_ G=>zc λ_ F=>?_)));refine CW.jQ dZ oR λc7 x n=>?_;have d:=d.ta n;refine ym rfl (ym rfl ?_);refine WS.ev (Ev.ixR ((k-1)) rfl rfl (g.q8 d) oO oO oT) rfl ?_;refine WS.ev (Ev.load rfl rfl ((g.q8 d).u32 oF)) rfl ?_;have d1:=p.getD ((k-1));refine ym rfl (ym rfl ?_);refine WS.ev (Ev.ixR ((k-1)) rfl rfl (f.q8 d) oO oO oT) rfl ?_;refine WS.ev (Ev.load rfl rfl ((f.q8 d).u32 oF)) rfl ?_;have d0:=o.getD ((k-1));refine WS.ev (Ev.lss rfl rfl) rfl ?_;refine WS.nil (x _ _ ?_);refine F ?_;refine zy rfl ?_ ?_<;>intro b4<;>try simp only[qs] at b4
  ·refine Sr λ_ D=>za rfl (zz (D ?_));refine zr (zr1 rfl rfl ?_);rw[e.1 oO];exact ⟨rfl,d⟩
  refine zkk (G (zc λ_ C=>?_));refine CW.jQ dZ oR λc6 t n=>?_;have d:=d.ta n;refine ym rfl (ym rfl ?_);refine WS.ev (Ev.ixR ((k-1)) rfl rfl (g.q8 d) oO oO oT) rfl ?_;refine WS.ev (Ev.load rfl rfl ((g.q8 d).u32 oF)) rfl ?_;have c9:=p.getD ((k-1));refine ym rfl (ym rfl ?_);refine WS.ev (Ev.ixR ((k-1)) rfl rfl (f.q8 d) oO oO oT) rfl ?_;refine WS.ev (Ev.load rfl rfl ((f.q8 d).u32 oF)) rfl ?_;have c8:=o.getD ((k-1));refine WS.ev (Ev.gtr rfl rfl) rfl ?_;refine WS.nil (t _ _ ?_);refine C ?_;refine zy rfl ?_ ?_<;>intro b3<;>try simp only[qs] at b3
  ·refine Sr λ_ z=>za rfl (zz (z ?_));refine zr (zr1 rfl rfl ?_);rw[e.2.1 oO];exact ⟨rfl,d⟩
  refine zkk (H (zS λ_ s=>zm rfl ?_))
  first|refine WL.ev (Ev.dX rfl rfl oO) rfl ?_|refine WL.ev (Ev.sub rfl rfl) rfl ?_
  refine za rfl (zz (s ?_));refine ⟨rfl,k-1,?_,?_,?_⟩
  ·exact SLp
  ·exact ⟨by omega,e.2.2 oO,d⟩
  omega
 refine CW.exit ?_;refine O (Sr λ_ y=>za rfl (zz (y ?_)));refine zr (zr1 rfl rfl ?_);have b2:k=0:=by omega
 subst b2;rw[List.drop_zero,List.drop_zero] at m;rw[<- X,<- V,m,dej];exact ⟨rfl,d⟩
structure KPls(X Y:List Nat)(w:World)(g:Nat×List Nat×Nat×Value)(wr:World):Prop where
  a:b3q X Y g.1 g.2.1 g.2.2.1
  gr:GR wr 162 kZ w.heap.size [] g.2.2.2 g.2.1
  ch:Chg [] w wr
structure KMis(X Y:List Nat)(w:World)(g:Nat×List Nat×Nat×Value)(wr:World):Prop where
  a:bvq X Y g.1 g.2.1 g.2.2.1
  gr:GR wr 162 kZ w.heap.size [] g.2.2.2 g.2.1
  ch:Chg [] w wr
theorem b0q(va vb:Value)(h e:List Nat)(w:World)(ha:NU w va h)(hb:NU w vb e)(c5:h.length<=1099511627776)(c4:e.length<=1099511627776):Ret Tryz.prog 173 [va,vb] w λu w'=>NU w' u (wd (val h+val e))/\Chg [] w w'/\Fh w u:=by
 have a4:=ha;have a3:=hb;obtain ⟨⟨a9,a6,rfl,O,b3⟩,p,b5⟩:=ha;obtain ⟨⟨a8,a5,rfl,M,b2⟩,o,b4⟩:=hb;have a:=crf w;refine zE2 Tryz.func173 rfl ?_;refine Sr λ_ Z=>za rfl (zz (Z (Sr λ_ Y=>za rfl (zz (Y (Sr λ_ V=>za rfl (zz (V (zc λ_ U=>Sr λ_ T=>za rfl (zz (T (CW.block ?_))))))))))));refine CW.loop (S:=λg:Nat×List Nat×Nat×Value=>[(0,.slice a9 h.length a6),(1,.slice a8 e.length a5),(5,g.2.2.2),(6,.int .u64 (g.2.2.1:Int)),(7,.int .i64 (g.1:Int))]) (Inv:=KPls h e w) (mu:=λg=>max h.length e.length+1-g.1) ((0,[],0,.slice none 0 0)) ?_ ?_ ?_
 ·exact ⟨b3q.zero _ _,GR.nil,a⟩
 ·exact SLp
 rintro ⟨i,L,c,vo⟩ wr ⟨q,d,a⟩;dsimp only at q d a;dsimp only;have c6:=q.len_le;have c8:=q.len;have c7:=q.c1;have c3:=p.getD i;have c2:=o.getD i;refine zc λ_ G=>?_;refine CW.oX 22 (decide ((i<h.length\/i<e.length)\/0<c)) ?_ ?_
 ·refine zS λ_ j=>zm rfl (zm rfl (zn rfl (zL rfl rfl (zm rfl ?_))));refine zb ?_ ?_<;>intro a1<;>try simp only[qs] at a1
  ·refine zv rfl (zv rfl (zv rfl (zv rfl (zt rfl rfl (zm rfl (zv rfl (zv rfl (zt rfl rfl (zz (j ?_))))))))));refine ⟨rfl,rfl,j0.g8 rfl ?_ ?_⟩
   ·first|(simp;omega)|(simp_all;done)|(refine decide_eq_decide.2 ?_;omega)
   exact SMg
  refine zw rfl (zm rfl (zw rfl (zm rfl (zw rfl (zn rfl (zw rfl (zL rfl rfl (ze rfl rfl (zm rfl ?_)))))))));refine zb ?_ ?_<;>intro a0<;>try simp only[qs] at a0
  ·refine zv rfl (zv rfl (zt rfl rfl (zz (j ?_))));refine ⟨rfl,rfl,j0.g8 rfl ?_ ?_⟩
   ·first|(simp;omega)|(simp_all;done)|(refine decide_eq_decide.2 ?_;omega)
   exact SMg
  refine zw rfl (zm rfl (zw rfl (zG rfl rfl (ze rfl rfl (zz (j ?_))))));refine ⟨rfl,rfl,j0.g8 rfl ?_ ?_⟩
  ·first|(simp;omega)|(simp_all;done)|(refine decide_eq_decide.2 ?_;omega)
  exact SMg
 refine zy rfl ?_ ?_<;>intro x<;>try simp only[qs] at x
 ·have t:=x
  refine zkk (G (zc λ_ F=>CW.block (Sr λ_ D=>zm rfl (zm rfl ?_))));refine WL.call hasF232 rfl rfl (b5j _ _ _ (a4.q8 a) i oO) λv w1 J=>?_;obtain ⟨rfl,rfl⟩:=J;refine zm rfl (zm rfl ?_);refine WL.call hasF232 rfl rfl (b5j _ _ _ (a3.q8 a) i oO) λv w2 J=>?_;obtain ⟨rfl,rfl⟩:=J
  first|refine WL.ev (Ev.iJ rfl rfl oO) rfl ?_|refine WL.ev (Ev.abq rfl rfl) rfl ?_
  refine zm rfl ?_
  first|refine WL.ev (Ev.iJ rfl rfl oO) rfl ?_|refine WL.ev (Ev.abq rfl rfl) rfl ?_
  refine za rfl (zz (D (Sr λ_ C=>zm rfl (zm rfl ?_))));refine WL.ev (Ev.tJ rfl rfl) rfl ?_;refine WL.buildSlice (m:=1) (cs:=[kZ (((((h.getD i 0)+(e.getD i 0))+c)%4294967296))]) oD oD rfl oR rfl λa7 Q k=>?_;have n:=k.chg;have r:=k.ge;have I:OB Q a7 _ [((((h.getD i 0)+(e.getD i 0))+c)%4294967296)]:=k.at_;have y:=Nat.le_trans a.size r;have a:=a.ta n;have d:=d.q8 n;refine WL.c1j (f:=kZ) (lo:=w.heap.size) (X:=[]) (l:=L) (news:=[((((h.getD i 0)+(e.getD i 0))+c)%4294967296)]) (by rfl) (λi=>rfl) rfl rfl d (by first|rfl|(simp;done)|(simp;omega)|omega) I.row (by first|omega|exact a.size|exact Nat.le_refl _) oS (by simp only[List.length_append,List.length_cons,List.length_nil];omega) (by simp only[List.length_append,List.length_cons,List.length_nil];omega) rfl λR b9 H s=>?_;have a:=GR.frame d s a (by first|omega|exact Nat.le_refl _);have d:=H;refine za rfl (zz (C ?_));refine zR λ_ A=>?_;refine zm rfl ?_;refine WL.ev (Ev.avx (b:=32) rfl rfl (by simp only[IntKind.bits];omega)) rfl ?_;refine za rfl ?_;refine WL.nil (A _ _ _ (F ?_));refine zS λ_ z=>zm rfl ?_;(first|refine zi rfl rfl ?_|refine zo rfl rfl ?_);refine za rfl (zz (z ?_));refine ⟨rfl,(i+1,L++[(h.getD i 0+e.getD i 0+c)%4294967296],(h.getD i 0+e.getD i 0+c)/2^32,R),?_,?_,?_⟩
  ·exact SLp
  ·exact ⟨q.step p o t,d,a⟩
  show max h.length e.length+1-(i+1)<max h.length e.length+1-i;have:=(q.step p o t).len_le;omega
 have t:=x;have a2:=q.done oO;refine CW.exit ?_;refine U (Sr λ_ B=>zm rfl ?_);refine WL.call hasF224 rfl rfl (wZ _ _ _ (d.nu q.w oO) (by have:=bZ q.w;omega)) λv w3 J=>?_;obtain ⟨hN,hC,hF⟩:=J;rw[a2] at hN;have hF:=hF.mono a.size;have a:=a.ta hC;refine za rfl (zz (B ?_));refine zr (zr1 rfl rfl ?_);exact ⟨hN,a,hF⟩
theorem btq(va vb:Value)(h p:List Nat)(w:World)(ha:NU w va h)(hb:NU w vb p)(c4:h.length<=1099511627776)(a0:val p<=val h):Ret Tryz.prog 175 [va,vb] w λu w'=>NU w' u (wd (val h-val p))/\Chg [] w w'/\Fh w u:=by
 have a4:=ha;have a3:=hb;obtain ⟨⟨a9,a6,rfl,O,b3⟩,o,b5⟩:=ha;obtain ⟨⟨a8,a5,rfl,M,b2⟩,n,b4⟩:=hb;have d:=crf w;refine zE2 Tryz.func175 rfl ?_;refine Sr λ_ Z=>za rfl (zz (Z (Sr λ_ Y=>za rfl (zz (Y (Sr λ_ V=>za rfl (zz (V (zc λ_ U=>Sr λ_ T=>za rfl (zz (T (CW.block ?_))))))))))));refine CW.loop (S:=λg:Nat×List Nat×Nat×Value=>[(0,.slice a9 h.length a6),(1,.slice a8 p.length a5),(5,g.2.2.2),(6,.int .u64 (g.2.2.1:Int)),(7,.int .i64 (g.1:Int))]) (Inv:=KMis h p w) (mu:=λg=>h.length-g.1) ((0,[],0,.slice none 0 0)) ?_ ?_ ?_
 ·exact ⟨bvq.zero _ _,GR.nil,d⟩
 ·exact SLp
 rintro ⟨i,L,c,vo⟩ wr ⟨q,e,d⟩;dsimp only at q e d;dsimp only;have c5:=q.le;have c6:=q.len;have H:=q.c1;have c3:=o.getD i;have c2:=n.getD i;refine zc λ_ F=>Sr λ_ D=>zm rfl (zm rfl (zn rfl (zL rfl rfl (zz (D ?_)))));refine zy rfl ?_ ?_<;>intro H<;>try simp only[qs] at H
 ·refine zkk (F (zc λ_ C=>CW.block (Sr λ_ B=>zm rfl (zm rfl ?_))));refine WL.call hasF232 rfl rfl (b5j _ _ _ (a4.q8 d) i oO) λv w1 J=>?_
  obtain ⟨rfl,rfl⟩:=J
  first|refine WL.ev (Ev.iJ (b:=4294967296) rfl rfl oO) rfl ?_|refine WL.ev (Ev.abq (b:=4294967296) rfl rfl) rfl ?_
  refine zm rfl (zm rfl ?_);refine WL.call hasF232 rfl rfl (b5j _ _ _ (a3.q8 d) i oO) λv w2 J=>?_;obtain ⟨rfl,rfl⟩:=J
  first|refine WL.ev (Ev.bfx rfl rfl oO oO) rfl ?_|refine WL.ev (Ev.czj rfl rfl oO) rfl ?_
  refine zm rfl ?_
  first|refine WL.ev (Ev.bfx rfl rfl oO oO) rfl ?_|refine WL.ev (Ev.czj rfl rfl oO) rfl ?_
  refine za rfl (zz (B (Sr λ_ A=>zm rfl (zm rfl ?_))));refine WL.ev (Ev.tJ rfl rfl) rfl ?_;refine WL.buildSlice (m:=1) (cs:=[kZ ((((((h.getD i 0)+4294967296)-(p.getD i 0))-c)%4294967296))]) oD oD rfl oR rfl λa7 Q j=>?_;have k:=j.chg;have r:=j.ge;have I:OB Q a7 _ [(((((h.getD i 0)+4294967296)-(p.getD i 0))-c)%4294967296)]:=j.at_;have t:=Nat.le_trans d.size r;have d:=d.ta k;have e:=e.q8 k;refine WL.c1j (f:=kZ) (lo:=w.heap.size) (X:=[]) (l:=L) (news:=[(((((h.getD i 0)+4294967296)-(p.getD i 0))-c)%4294967296)]) (by rfl) (λi=>rfl) rfl rfl e (by first|rfl|(simp;done)|(simp;omega)|omega) I.row (by first|omega|exact d.size|exact Nat.le_refl _) oS (by simp only[List.length_append,List.length_cons,List.length_nil];omega) (by simp only[List.length_append,List.length_cons,List.length_nil];omega) rfl λR b9 G s=>?_;have d:=GR.frame e s d (by first|omega|exact Nat.le_refl _);have e:=G;refine za rfl (zz (A ?_));refine zR λ_ y=>?_;refine zm rfl ?_;refine WL.ev (Ev.avx (b:=32) rfl rfl (by simp only[IntKind.bits];omega)) rfl ?_
  first|refine WL.ev (Ev.bfx (a:=1) rfl rfl oO oO) rfl ?_|refine WL.ev (Ev.czj (a:=1) rfl rfl oO) rfl ?_
  refine za rfl ?_;refine WL.nil (y _ _ _ (C ?_));refine zS λ_ x=>zm rfl ?_;(first|refine zi rfl rfl ?_|refine zo rfl rfl ?_);refine za rfl (zz (x ?_));refine ⟨rfl,(i+1,L++[(h.getD i 0+4294967296-p.getD i 0-c)%4294967296],1-(h.getD i 0+4294967296-p.getD i 0-c)/2^32,R),?_,?_,?_⟩
  ·exact SLp
  ·exact ⟨q.step o n oO,e,d⟩
  show h.length-(i+1)<h.length-i;omega
 have a1:i=h.length:=by omega
 subst a1;have a2:=q.done o n a0;refine CW.exit ?_;refine U (Sr λ_ z=>zm rfl ?_);refine WL.call hasF224 rfl rfl (wZ _ _ _ (e.nu q.w oO) (by have:=bZ q.w;omega)) λv w3 J=>?_;obtain ⟨hN,hC,hF⟩:=J;rw[a2] at hN;have hF:=hF.mono d.size;have d:=d.ta hC;refine za rfl (zz (z ?_));refine zr (zr1 rfl rfl ?_);exact ⟨hN,d,hF⟩
structure KMs(la lb:List Nat)(w:World)(b:Nat)(g:Nat×List Nat)(wr:World):Prop where
  a:dxj la lb g.1 g.2
  ob:OB wr b 162 g.2
  chg:Chg [] w wr
structure KNs(x:Nat)(lb:List Nat)(i:Nat)(L0:List Nat)(w:World)(b:Nat)(g:Nat×List Nat×Nat)(wr:World):Prop where
  a:cpj x lb i L0 g.1 g.2.1 g.2.2
  ob:OB wr b 162 g.2.1
  chg:Chg [] w wr
theorem awx(va vb:Value)(f e:List Nat)(w:World)(ha:NU w va f)(hb:NU w vb e)(d4:f.length+e.length<=35184372088832):Ret Tryz.prog 165 [va,vb] w λu w'=>NU w' u (wd (val f*val e))/\Chg [] w w'/\Fh w u:=by
 obtain ⟨⟨a4,a2,rfl,a6,q⟩,m,c6⟩:=ha;obtain ⟨⟨a3,a1,rfl,a5,p⟩,n,c5⟩:=hb;have a:=crf w;refine zE2 Tryz.func165 rfl ?_;refine Sr λ_ b2=>za rfl (zz (b2 (Sr λ_ b1=>zm rfl (zn rfl (zm rfl (zn rfl ?_))))));(first|refine zi rfl rfl ?_|refine zo rfl rfl ?_);refine WL.bcq (((f).length+(e).length)) (((f).length+(e).length)) rfl rfl oO oO oO oO oO rfl λo b6 d s r=>?_;have x:=Nat.le_trans a.size r;have a:=a.ta s;refine za rfl (zz (b1 (zc λ_ b0=>Sr λ_ a9=>za rfl (zz (a9 (CW.block ?_))))));refine CW.loop (S:=λg:Nat×List Nat=>[(0,.slice a4 f.length a2),(1,.slice a3 e.length a1),(5,.slice (some ⟨o,0,none⟩) (f.length+e.length) (f.length+e.length)),(6,.int .i64 (g.1:Int))]) (Inv:=KMs f e w o) (mu:=λg=>f.length-g.1) ((0,List.replicate (f.length+e.length) 0)) ?_ ?_ ?_
 ·exact ⟨dxj.zero f e,d,a⟩
 ·exact SLp
 rintro ⟨i,L0⟩ wr ⟨h,d,a⟩;dsimp only at h d a;have d6:=h.le;have e0:=h.len;refine zc λ_ a8=>Sr λ_ a7=>zm rfl (zm rfl (zn rfl (zL rfl rfl (zz (a7 ?_)))));refine zy rfl ?_ ?_<;>intro b5<;>try simp only[qs] at b5
 ·refine zkk (a8 (zc λ_ R=>CW.block (Sr λ_ Q=>za rfl (zz (Q (zc λ_ O=>Sr λ_ M=>za rfl (zz (M (CW.block ?_)))))))));refine CW.loop (S:=λg:Nat×List Nat×Nat=>[(0,.slice a4 f.length a2),(1,.slice a3 e.length a1),(5,.slice (some ⟨o,0,none⟩) (f.length+e.length) (f.length+e.length)),(6,.int .i64 (i:Int)),(7,.int .u64 (g.2.2:Int)),(8,.int .i64 (g.1:Int))]) (Inv:=KNs (f.getD i 0) e i L0 w o) (mu:=λg=>e.length-g.1) ((0,L0,0)) ?_ ?_ ?_
  ·exact ⟨cpj.zero h.w,d,a⟩
  ·exact SLp
  rintro ⟨j,L,c⟩ d2 ⟨t,d,a⟩;dsimp only at t d a;have d5:=t.le;have c8:=t.len;have a0:=t.w;have Z:=t.c1;refine zc λ_ J=>Sr λ_ I=>zm rfl (zm rfl (zn rfl (zL rfl rfl (zz (I ?_)))));refine zy rfl ?_ ?_<;>intro b4<;>try simp only[qs] at b4
  ·have l:=cpj.fits (m.getD i) (n.getD j) (a0.getD (i+j)) Z
   have d3:=m.getD i;refine zkk (J (zc λ_ H=>CW.block (zc λ_ G=>?_)));refine CW.jQ dZ oR λb9 C V=>?_;have a:=a.ta V;have d:=d.k0 V;refine ym rfl (ym rfl ?_);refine WS.ev (Ev.ixR (i) rfl rfl (q.q8 a) oO oO oT) rfl ?_;refine WS.ev (Ev.load rfl rfl ((q.q8 a).u32 oF)) rfl ?_;have c4:=m.getD (i);refine WS.ev (Ev.eZ rfl rfl (jX oO)) rfl ?_;refine ym rfl (ym rfl ?_);refine WS.ev (Ev.ixR (j) rfl rfl (p.q8 a) oO oO oT) rfl ?_;refine WS.ev (Ev.load rfl rfl ((p.q8 a).u32 oF)) rfl ?_;have c3:=n.getD (j);refine WS.ev (Ev.eZ rfl rfl (jX oO)) rfl ?_;refine WS.ev (Ev.mul64In rfl rfl l.2.1) rfl ?_;refine ym rfl (ym rfl (ym rfl ?_))
   first|refine WS.ev (Ev.kQ rfl rfl oO) rfl ?_|refine WS.ev (Ev.add rfl rfl) rfl ?_
   refine WS.ev (Ev.ixB ((i+j)) rfl rfl oO oO) rfl ?_;refine WS.ev (Ev.load rfl rfl (d.u32 oF)) rfl ?_;have c2:=a0.getD ((i+j));refine WS.ev (Ev.eZ rfl rfl (jX oO)) rfl ?_;refine WS.ev (Ev.iJ rfl rfl l.2.2) rfl ?_;refine ym rfl ?_;refine WS.ev (Ev.iJ rfl rfl l.1) rfl ?_;refine ya rfl ?_;refine WS.nil (C _ _ ?_);refine G (Sr λ_ F=>zm rfl (zm rfl (zm rfl ?_)));(first|refine zi rfl rfl ?_|refine zo rfl rfl ?_);refine zm rfl ?_;refine WL.ev (Ev.tJ rfl rfl) rfl ?_;refine WL.ev (Ev.ixB ((i+j)) rfl rfl oO oO) rfl ?_;refine WL.tQ rfl rfl d oF λd1 k Y=>?_;have a:=a.s1 Y;have d:=k;refine zz (F ?_);refine zR λ_ B=>?_;refine zm rfl ?_;refine WL.ev (Ev.avx (b:=32) rfl rfl (by simp only[IntKind.bits];exact l.1)) rfl ?_;refine za rfl ?_;refine WL.nil (B _ _ _ (H ?_));refine zS λ_ A=>zm rfl ?_;(first|refine zi rfl rfl ?_|refine zo rfl rfl ?_);refine za rfl (zz (A ?_));refine ⟨rfl,(j+1,L.set (i+j) ((f.getD i 0*e.getD j 0+L.getD (i+j) 0+c)%4294967296),(f.getD i 0*e.getD j 0+L.getD (i+j) 0+c)/4294967296),?_,?_,?_⟩
   ·exact SLp
   ·exact ⟨t.step (m.getD i) n oO oO,d,a⟩
   show e.length-(j+1)<e.length-j;omega
  have T:j=e.length:=by omega
  subst T;refine CW.exit ?_;refine O ?_;refine zR λ_ z=>?_;refine zm rfl (zm rfl (zm rfl (zn rfl ?_)));(first|refine zi rfl rfl ?_|refine zo rfl rfl ?_);refine zm rfl ?_;refine WL.ev (Ev.tJ rfl rfl) rfl ?_;rw[Nat.mod_eq_of_lt Z];refine WL.ev (Ev.ixB ((i+(e).length)) rfl rfl oO oO) rfl ?_;refine WL.tQ rfl rfl d oF λd0 k X=>?_;have a:=a.s1 X;have d:=k;refine WL.nil (z _ _ _ (R ?_));refine zS λ_ y=>zm rfl ?_;(first|refine zi rfl rfl ?_|refine zo rfl rfl ?_);refine za rfl (zz (y ?_));refine ⟨rfl,(i+1,L.set (i+e.length) c),?_,?_,?_⟩
  ·exact SLp
  ·exact ⟨h.step oO t,d,a⟩
  show f.length-(i+1)<f.length-i;omega
 have U:i=f.length:=by omega
 subst U;have b3:=h.done;have d9:=h.len;refine CW.exit ?_;refine b0 (Sr λ_ D=>zm rfl ?_);refine WL.call hasF224 rfl rfl (wZ _ _ _ (NU.nX d h.w oO oO (Nat.le_refl _)) (by have:=bZ h.w;omega)) λv w1 h'=>?_;obtain ⟨hN,hC,hF⟩:=h';rw[b3] at hN;have hF:=hF.mono a.size;have a:=a.ta hC;refine za rfl (zz (D ?_));refine zr (zr1 rfl rfl ?_);exact ⟨hN,a,hF⟩
structure KDgs(la lb:List Nat)(w:World)(g:Nat×Nat×Value)(wr:World):Prop where
  lt:g.1<g.2.1
  le:g.2.1<=4294967296
  a:val lb*g.1<=val la
  b:val la<val lb*g.2.1
  nu:NU wr g.2.2 (wd (val lb*g.1))
  fh:Fh w g.2.2
  ch:Chg [] w wr
theorem r2digit_spec(va vb:Value)(k e:List Nat)(w:World)(ha:NU w va k)(hb:NU w vb e)(d0:k.length<=1099511627776)(c9:e.length<=1099511627776)(a6:val k<val e*4294967296):Ret Tryz.prog 256 [va,vb] w λu w'=>∃ x,u = .tuple [.int .u32 ((val k/val e:Nat):Int),x].toArray/\NU w' x (wd (val e*(val k/val e)))/\Chg [] w w'/\Fh w x:=by
 have a8:=ha;have a7:=hb;obtain ⟨⟨b4,b1,rfl,T,b9⟩,c6,c2⟩:=ha;obtain ⟨⟨b3,b0,rfl,R,b8⟩,c5,c1⟩:=hb;have a:=crf w;refine zE2 Tryz.func256 rfl ?_;refine Sr λ_ a1=>za rfl (za rfl (zz (a1 (Sr λ_ a0=>za rfl (zz (a0 (Sr λ_ Z=>za rfl (zz (Z (Sr λ_ Y=>za rfl (zz (Y (zc λ_ X=>CW.block ?_)))))))))))));refine CW.loop (S:=λg:Nat×Nat×Value=>[(0,.slice b4 k.length b1),(1,.slice b3 e.length b0),(6,.int .u64 (g.1:Int)),(7,.int .u64 (g.2.1:Int)),(8,g.2.2)]) (Inv:=KDgs k e w) (mu:=λg=>g.2.1-g.1) ((0,4294967296,.slice none 0 0)) ?_ ?_ ?_
 ·exact ⟨by decide,Nat.le_refl _,by rw[Nat.mul_zero];exact Nat.zero_le _,a6,by rw[Nat.mul_zero,fX];exact NU.nil,Fh.nil,a⟩
 ·exact SLp
 rintro ⟨f,t,v0⟩ wr ⟨a4,ht,s,n,d,r,a⟩;dsimp only at a4 ht s n d r a;dsimp only;refine zc λ_ M=>Sr λ_ J=>zm rfl (zm rfl ?_)
 first|refine WL.ev (Ev.bfx rfl rfl oO oO) rfl ?_|refine WL.ev (Ev.czj rfl rfl oO) rfl ?_
 refine zG rfl rfl (zz (J ?_));refine zy rfl ?_ ?_<;>intro a5<;>try simp only[qs] at a5
 ·have a3:f<(f+t)/2:=by omega
  have a2:(f+t)/2<t:=by omega
  refine zkk (M (CW.block (Sr λ_ I=>zm rfl (zm rfl ?_))))
  first|refine WL.ev (Ev.iJ rfl rfl oO) rfl ?_|refine WL.ev (Ev.abq rfl rfl) rfl ?_
  refine WL.ev (Ev.dlq (b:=2) rfl rfl oO (jX oO).2) rfl ?_;refine za rfl (zz (I (Sr λ_ H=>zm rfl (zm rfl ?_))));refine WL.ev (Ev.tJ rfl rfl) rfl ?_;rw[Nat.mod_eq_of_lt (show (f+t)/2<4294967296 by omega)];refine WL.buildSlice (m:=1) (cs:=[kZ (((f+t)/2))]) oD oD rfl oR rfl λb2 U h=>?_;have i:=h.chg;have p:=h.ge;have Q:OB U b2 _ [((f+t)/2)]:=h.at_;have z:=Nat.le_trans a.size p;have a:=a.ta i;have d:=d.q8 i;refine WL.call hasF165 rfl rfl (awx _ _ _ _ _ (a7.q8 a) (NU.nX (l:=[((f+t)/2)]) Q (zX.2 ⟨by omega,ayx⟩) oS rfl oO) (by simp only[List.length_cons,List.length_nil];omega)) λV w1 h'=>?_;obtain ⟨j,A,y⟩:=h';rw[crx _ oO] at j;have y:=y.mono a.size;have a:=a.ta A;have d:=d.q8 A;refine za rfl (zz (H (Sr λ_ G=>zm rfl (zm rfl ?_))));refine WL.call hasF174 rfl rfl (azj _ _ _ _ _ j (a8.q8 a)) λv w2 h'=>?_;obtain ⟨rfl,A⟩:=h';rw[g7];have a:=a.ta A;have d:=d.q8 A;have j:=j.q8 A;refine zQ rfl rfl (zz (G ?_));refine zy rfl ?_ ?_<;>intro O<;>try simp only[qs] at O
  ·have o:val e*((f+t)/2)<=val k:=bjx.1 O
   refine Sr λ_ F=>zm rfl (za rfl (zz (F (zS λ_ C=>zm rfl (za rfl (zz (C ?_)))))));refine ⟨rfl,(((f+t)/2),t,V),?_,?_,?_⟩
   ·exact SLp
   ·exact ⟨a2,ht,o,n,j,y,a⟩
   show t-((f+t)/2)<t-f;omega
  have o:val k<val e*((f+t)/2):=Nat.lt_of_not_le λq=>by have:=bjx.2 q;omega
  refine zS λ_ B=>zm rfl (za rfl (zz (B ?_)));refine ⟨rfl,(f,((f+t)/2),v0),?_,?_,?_⟩
  ·exact SLp
  ·exact ⟨a3,by dsimp only;omega,s,o,d,r,a⟩
  show ((f+t)/2)-f<t-f;omega
 have et:t=f+1:=by omega
 subst et;have hq:val k/val e=f:=Nat.div_eq_of_lt_le (by rw[Nat.mul_comm];exact s) (by rw[Nat.mul_comm];exact n);refine CW.exit ?_;refine X (Sr λ_ D=>zm rfl ?_);refine WL.ev (Ev.tJ rfl rfl) rfl ?_;rw[Nat.mod_eq_of_lt (show f<4294967296 by omega)];refine zm rfl (za rfl (za rfl (zz (D ?_))));refine zr (zr2 rfl rfl rfl ?_);rw[hq];exact ⟨_,rfl,d,a,r⟩
structure KPts(la:List Nat)(b:Nat)(w:World)(B:Nat)(g:Nat×List Nat×Nat×Value)(wr:World):Prop where
  a:biq la b g.1 g.2.1 g.2.2.1
  ob:OB wr B 162 g.2.1
  nu:NU wr g.2.2.2 (wd g.2.2.1)
  av:Av B g.2.2.2
  ch:Chg [] w wr
theorem clq(va vb:Value)(e t:List Nat)(w:World)(ha:NU w va e)(hb:NU w vb t)(h1:e.length<=1099511627776)(h0:t.length<=1099511627775)(d9:0<val t):Ret Tryz.prog 231 [va,vb] w λu w'=>∃ x y,u = .tuple [x,y].toArray/\NU w' x (wd (val e/val t))/\NU w' y (wd (val e%val t))/\Chg [] w w':=by
 have h4:=ha;have b8:=hb;obtain ⟨⟨f0,e7,rfl,c3,T⟩,n,f7⟩:=ha;obtain ⟨⟨e9,e6,rfl,c2,f5⟩,U,f6⟩:=hb;have d:=crf w;refine zE2 Tryz.func231 rfl ?_;refine Sr λ_ d1=>za rfl (za rfl (zz (d1 (Sr λ_ d0=>zm rfl (zn rfl ?_)))));refine WL.bcq ((e).length) ((e).length) rfl rfl oO oO oO oO oO rfl λH f1 a V D=>?_;have A:=Nat.le_trans d.size D;have d:=d.ta V;refine za rfl (zz (d0 (Sr λ_ c9=>za rfl (zz (c9 (zc λ_ c8=>Sr λ_ c7=>zm rfl (zn rfl ?_)))))))
 first|refine WL.ev (Ev.dX rfl rfl oO) rfl ?_|refine WL.ev (Ev.sub rfl rfl) rfl ?_
 refine za rfl (zz (c7 (CW.block ?_)));refine CW.loop (S:=λg:Nat×List Nat×Nat×Value=>[(0,.slice f0 e.length e7),(1,.slice e9 t.length e6),(6,.slice (some ⟨H,0,none⟩) e.length e.length),(7,g.2.2.2),(8,.int .i64 ((g.1:Int)-1))]) (Inv:=KPts e (val t) w H) (mu:=λg=>g.1) ((e.length,List.replicate e.length 0,0,.slice none 0 0)) ?_ ?_ ?_
 ·exact ⟨biq.zero e d9,a,by rw[fX];exact NU.nil,Av.nil,d⟩
 ·exact SLp
 rintro ⟨k,Q,r,vr⟩ wr ⟨I,a,p,e0,d⟩;dsimp only at I a p e0 d;dsimp only;have h2:=I.le;have h7:=I.len;have d4:=I.rl;have D:w.heap.size<=H:=A;refine zc λ_ b3=>Sr λ_ b2=>zm rfl ?_;refine WL.ev (Ev.geq rfl rfl) rfl ?_;refine zz (b2 ?_);refine zy rfl ?_ ?_<;>intro d8<;>try simp only[qs] at d8
 ·have b6:=I.bound n
  have g3:(wd r).length<=t.length:=Nat.le_trans (uZ (Nat.le_of_lt d4)) (bZ U);have h5:(wd (e.getD (k-1) 0+4294967296*r)).length<=t.length+1:=len_up b6 (vZ U);refine zkk (b3 (zc λ_ O=>CW.block (Sr λ_ b1=>zm rfl (zm rfl ?_))));refine WL.ev (Ev.ixR ((k-1)) rfl rfl (T.q8 d) oO oO oT) rfl ?_;refine WL.ev (Ev.load rfl rfl ((T.q8 d).u32 oF)) rfl ?_;have f4:=n.getD ((k-1));refine WL.buildSlice (m:=1) (cs:=[kZ ((e).getD ((k-1)) 0)]) oD oD rfl oR rfl λe8 c4 B=>?_;have s:=B.chg;have C:=B.ge;have b7:OB c4 e8 _ [(e).getD ((k-1)) 0]:=B.at_;have z:=Nat.le_trans d.size C;have d:=d.ta s;have p:=p.q8 s;have Z:=zdd a.lt C;have a:=a.k0 s;have h:=GR.of_OB (lo:=w.heap.size) (X:=[H]) (k:=1) b7 oS oS z oT;rw[show List.take 1 [e.getD (k-1) 0]=[e.getD (k-1) 0] from rfl] at h;refine za rfl (zz (b1 (zc λ_ b0=>?_)));have d2:=p;obtain ⟨⟨ar,cr,rfl,d7,d3⟩,h6,g9⟩:=d2;refine zR λ_ a4=>?_;refine zm rfl (zm rfl ?_);refine WL.c1j (f:=kZ) (lo:=w.heap.size) (X:=[H]) (l:=[e.getD (k-1) 0]) (news:=(wd r)) (by rfl) (λi=>rfl) rfl rfl h (by first|rfl|(simp;done)|(simp;omega)|omega) d3 (by first|omega|exact d.size|exact Nat.le_refl _) (by intro b hb;simp only[List.mem_singleton] at hb;subst hb;exact a.lt) (by simp only[List.length_append,List.length_cons,List.length_nil];omega) (by simp only[List.length_append,List.length_cons,List.length_nil];omega) rfl λg2 g1 b4 G=>?_;have d:=GR.frame h G d (by first|omega|exact Nat.le_refl _);have a:=a.dJ G (h.notin (by first|exact .inl oS|exact .inr oO));have h:=b4;refine za rfl ?_;refine WL.nil (a4 _ _ _ (b0 ?_));refine zc λ_ a9=>?_;have R:val ([e.getD (k-1) 0]++wd r)=(e.getD (k-1) 0+4294967296*r):=by rw[azq,g7];simp[val]
  refine zR λ_ a3=>?_;refine zm rfl ?_;refine WL.call hasF224 rfl rfl (wZ _ _ _ (h.nu (apq.2 ⟨zX.2 ⟨n.getD _,ayx⟩,W_wd _⟩) (by simp only[List.length_append,List.length_cons,List.length_nil];omega)) (by rw[R];omega)) λc6 w1 M=>?_;obtain ⟨j,o,e1⟩:=M;rw[R] at j;have e4:=e1.av a.lt;have d:=d.ta o;have a:=a.k0 o;refine za rfl ?_;refine WL.nil (a3 _ _ _ (a9 ?_));refine Sr λ_ a8=>zm rfl (zm rfl ?_);refine WL.call hasF174 rfl rfl (azj _ _ _ _ _ j (b8.q8 d)) λv w2 M=>?_;obtain ⟨rfl,o⟩:=M;rw[g7];have d:=d.ta o;have a:=a.k0 o;have j:=j.q8 o;refine WL.ev (Ev.geq rfl rfl) rfl ?_;refine zz (a8 ?_);refine zy rfl ?_ ?_<;>intro b5<;>try simp only[qs] at b5
  ·have h3:val t<=(e.getD (k-1) 0+4294967296*r):=dfx.1 b5
   refine Sr λ_ a7=>zm rfl (zm rfl ?_);refine WL.call hasF256 rfl rfl (r2digit_spec _ _ _ _ _ j (b8.q8 d) oO oO (by rw[g7];exact b6)) λv w3 M=>?_;obtain ⟨x,rfl,J,o,e3⟩:=M;rw[g7] at J ⊢;have h8:=e3.av a.lt;have d:=d.ta o;have a:=a.k0 o;have j:=j.q8 o;refine zm rfl (zx rfl rfl (zx rfl rfl (za rfl (za rfl (zz (a7 (Sr λ_ a6=>zm rfl (zm rfl (zm rfl ?_)))))))));refine WL.ev (Ev.ixB ((k-1)) rfl rfl oO oO) rfl ?_;refine WL.tQ rfl rfl a oF λg0 Y F=>?_;have d:=d.s1 F;have j:=j.keepOB a F oA;have J:=J.keepOB a F oA;have a:=Y;refine zz (a6 ?_);refine zR λ_ a2=>?_;refine zm rfl (zm rfl ?_);refine WL.call hasF175 rfl rfl (btq _ _ _ _ _ j J oO (by rw[g7,g7];exact Nat.mul_div_le _ _)) λc5 w4 M=>?_;obtain ⟨c1,o,e2⟩:=M;rw[g7,g7] at c1;have e5:=e2.av a.lt;have d:=d.ta o;have a:=a.k0 o;refine za rfl ?_;refine WL.nil (a2 _ _ _ (O ?_));refine zS λ_ a1=>zm rfl ?_
   first|refine WL.ev (Ev.dX rfl rfl oO) rfl ?_|refine WL.ev (Ev.sub rfl rfl) rfl ?_
   refine za rfl (zz (a1 ?_));refine ⟨rfl,(k-1,Q.set (k-1) ((e.getD (k-1) 0+4294967296*r)/val t),(e.getD (k-1) 0+4294967296*r)-val t*((e.getD (k-1) 0+4294967296*r)/val t),c5),?_,?_,?_⟩
   ·exact SLp
   ·exact ⟨I.step n oO,a,c1,e5,d⟩
   show k-1<k;omega
  have d5:(e.getD (k-1) 0+4294967296*r)<val t:=Nat.lt_of_not_le λq=>by have:=dfx.2 q;omega
  refine zkk (O (zS λ_ a0=>zm rfl ?_))
  first|refine WL.ev (Ev.dX rfl rfl oO) rfl ?_|refine WL.ev (Ev.sub rfl rfl) rfl ?_
  refine za rfl (zz (a0 ?_));refine ⟨rfl,(k-1,Q,(e.getD (k-1) 0+4294967296*r),c6),?_,?_,?_⟩
  ·exact SLp
  ·exact ⟨I.stay n oO d5,a,j,e4,d⟩
  show k-1<k;omega
 have d6:k=0:=by omega
 subst d6;obtain ⟨hq,hr⟩:=I.done;subst hr;refine CW.exit ?_;refine c8 (Sr λ_ a5=>zm rfl ?_);refine WL.call hasF224 rfl rfl (wZ _ _ _ (NU.nX a I.w oO oO (Nat.le_refl _)) (by have:=bZ I.w;omega)) λv w5 M=>?_;obtain ⟨hN,o,hF⟩:=M;rw[hq] at hN;have d:=d.ta o;have p:=p.q8 o;refine zm rfl (za rfl (za rfl (zz (a5 ?_))));refine zr (zr2 rfl rfl rfl ?_);exact ⟨_,_,rfl,hN,p,d⟩
theorem shift_drop{l:List Nat}{q:Nat}(h:W l)(a:q/32<=l.length):val (l.drop (q/32))/2^(q%32)=val l/2^q:=by
  rw[cij h _ a,Nat.div_div_eq_div_mul,<- Nat.pow_add,show 32*(q/32)+q%32=q by omega]
theorem shift_out{l:List Nat}{q:Nat}(h:W l)(a:l.length<=q/32):val l/2^q=0:=by
  refine Nat.div_eq_of_lt (Nat.lt_of_lt_of_le (vZ h) (Nat.pow_le_pow_right oD oO))
theorem Ev.negN{P:Program}{s:Sl}{w:World}{ty t:TypeId}{x:Operand}{q:Nat}(a:k6 s x=some (.int .i64 (-(q:Int))))(h:q<=9223372036854775807):Ev P s (.unOp .neg t x) ty w (.int .i64 (q:Int)) w:=by
  have:=Ev.bpx (P:=P) (w:=w) (ty:=ty) (t:=t) a oO
  rwa [show - -(q:Int)=(q:Int) by omega] at this
theorem Ev.shlOne{P:Program}{s:Sl}{w:World}{ty t t':TypeId}{x y:Operand}{b:IntKind}{r:Nat}(e:k6 s x=some (.int .u32 1))(d:k6 s y=some (.int b (r:Int)))(h:2^r<4294967296):Ev P s (.binOp .shl t x y t') ty w (.int .u32 ((2^r:Nat):Int)) w:=by
  have:=Ev.shlU32 (P:=P) (w:=w) (ty:=ty) (t:=t) (t':=t') (a:=1) e d
  rwa [Nat.one_mul,Nat.mod_eq_of_lt h] at this
theorem pow_lt32{r:Nat}(h:r<32):2^r<4294967296:=by
  have:2^r<=2^31:=Nat.pow_le_pow_right oD oO
  omega
theorem csj(v:Value)(l:List Nat)(w:World)(h:NU w v l)(q:Nat)(a7:0<q)(hq:q<=1099511627776)(a8:l.length<=1099511627776):Ret Tryz.prog 172 [v,.int .i64 (-(q:Int))] w λu w'=>NU w' u (wd (val l/2^q))/\Chg [] w w':=by
 have a6:=h;obtain ⟨⟨al,cl,rfl,Y,U⟩,B,a9⟩:=h;have a:=crf w;have e:=pow_lt32 (r:=q%32) (Nat.mod_lt _ oD);refine zE2 Tryz.func172 rfl ?_;refine Sr λ_ T=>za rfl (zz (T (zc λ_ a5=>Sr λ_ R=>zm rfl (zL rfl rfl (zz (R ?_))))));refine zy rfl ?_ ?_<;>intro a0<;>try simp only[qs] at a0
 ·refine Sr λ_ Q=>zm rfl ?_
  refine WL.ev (Ev.bpx rfl oO) rfl ?_;rw[show - -(q:Int)=(q:Int) by omega];refine WL.ev (Ev.b1x (b:=32) rfl rfl oO (by simp only[IntKind.max,IntKind.signed,IntKind.bits];omega) oO) rfl ?_;rw[show (q:Int)/32=((q/32:Nat):Int) by omega];refine za rfl (zz (Q (zc λ_ O=>?_)));refine CW.oX 21 (decide (l.length<=q/32)) ?_ ?_
  ·refine zS λ_ F=>zm rfl (zm rfl (zn rfl ?_));refine WL.ev (Ev.geq rfl rfl) rfl ?_;refine zm rfl ?_;refine zb ?_ ?_<;>intro V<;>try simp only[qs] at V
   ·refine zv rfl (zv rfl (zt rfl rfl (zz (F ?_))));refine ⟨rfl,rfl,j0.g8 rfl ?_ ?_⟩
    ·first|(simp;omega)|(refine decide_eq_decide.2 ?_;omega)
    exact SMg
   refine zw rfl (zm rfl (zw rfl (zL rfl rfl (ze rfl rfl (zz (F ?_))))));refine ⟨rfl,rfl,j0.g8 rfl ?_ ?_⟩
   ·first|(simp;omega)|(refine decide_eq_decide.2 ?_;omega)
   exact SMg
  refine zy rfl ?_ ?_<;>intro Z<;>try simp only[qs] at Z
  ·refine Sr λ_ I=>za rfl (zz (I ?_));refine zr (zr1 rfl rfl ?_);rw[shift_out B oO,fX];exact ⟨NU.nil,a⟩
  have J:=shift_drop B (q:=q) oO;have n:NU w (.slice (cutAt al (q/32) cl 1) (l.length-q/32) (cl-q/32)) (l.drop (q/32)):=NU.adx (by rw[List.map_drop];exact U.cut _ _ oT oT) (B.drop _) oT oS oO;have a3:(l.drop (q/32)).length<=1099511627776:=by simp;omega
  refine zkk (O (zc λ_ z=>?_));refine CW.cQ 15 rfl dZ λa2 t d X=>?_;have a:=a.ta X;refine wh 0 rfl d (eM rfl) (wh 1 rfl d (eM rfl) (wh 2 rfl d (λ_ _=>Ev.brj ((q/32)) rfl rfl oO oO) (wh 4 rfl d (eM rfl) (wh 5 rfl d (λ_ _=>Ev.negN rfl oO) (wh 6 rfl d (λ_ _=>Ev.dhx (b:=32) rfl rfl oO) (wh 7 rfl d (λ_ _=>Ev.shlOne rfl rfl e) ?_))))));refine WH.c4q 3 8 oR ?_ ?_
  ·refine ahj.call 3 rfl hasF224 rfl rfl (wZ _ _ _ (n.q8 a) (by have:=bZ n.hw;omega)) λv w1 C=>?_;obtain ⟨s,o,M⟩:=C;have a:=a.ta o;have d:=d.trans o;refine ⟨d,?_⟩;refine WH.bhj 8 rfl oR d (m:=1) (cs:=[kZ (2^(q%32))]) oD oD rfl oR rfl λD A f d=>?_;have g:=f.chg;have j:=f.ge;have i:OB A D _ [2^(q%32)]:=f.at_;have k:=Nat.le_trans a.size j;have a:=a.ta g;have s:=s.q8 g;refine WH.k7 9 rfl oR hasF231 rfl rfl (clq _ _ _ _ _ s (NU.nX i (zX.2 ⟨e,ayx⟩) oS rfl oO) (by have:=bZ n.hw;omega) oS (by rw[crx _ e];exact Nat.two_pow_pos _)) λv w2 C=>?_;obtain ⟨x,y,rfl,p,a1,o⟩:=C;rw[g7,crx _ e,J] at p;have a:=a.ta o;have d:=d.trans o;refine ⟨d,?_⟩;refine wh 10 rfl d (eM rfl) (wh 11 rfl d (eX rfl rfl) (wh 12 rfl d (eX rfl rfl) (wh 13 rfl d (eA rfl) (wh 14 rfl d (eA rfl) ?_))));refine WH.done oR (t _ _ _ ?_);refine z (Sr λ_ H=>zm rfl (za rfl (zz (H ?_))));refine zr (zr1 rfl rfl ?_);exact ⟨p,a⟩
  refine ahj.buildSlice 8 rfl d (m:=1) (cs:=[kZ (2^(q%32))]) oD oD rfl oR rfl λD A f d=>?_;have g:=f.chg;have j:=f.ge;have i:OB A D _ [2^(q%32)]:=f.at_;have k:=Nat.le_trans a.size j;have a:=a.ta g;refine WH.k7 3 rfl oR hasF224 rfl rfl (wZ _ _ _ (n.q8 a) (by have:=bZ n.hw;omega)) λv w3 C=>?_;obtain ⟨s,o,M⟩:=C;have a:=a.ta o;have i:=i.k0 o;have d:=d.trans o;refine ⟨d,?_⟩;refine WH.k7 9 rfl oR hasF231 rfl rfl (clq _ _ _ _ _ s (NU.nX i (zX.2 ⟨e,ayx⟩) oS rfl oO) (by have:=bZ n.hw;omega) oS (by rw[crx _ e];exact Nat.two_pow_pos _)) λv w4 C=>?_;obtain ⟨x,y,rfl,p,a1,o⟩:=C;rw[g7,crx _ e,J] at p;have a:=a.ta o;have d:=d.trans o;refine ⟨d,?_⟩;refine wh 10 rfl d (eM rfl) (wh 11 rfl d (eX rfl rfl) (wh 12 rfl d (eX rfl rfl) (wh 13 rfl d (eA rfl) (wh 14 rfl d (eA rfl) ?_))));refine WH.done oR (t _ _ _ ?_);refine z (Sr λ_ G=>zm rfl (za rfl (zz (G ?_))));refine zr (zr1 rfl rfl ?_);exact ⟨p,a⟩
 exfalso;omega
theorem up_pow(n q:Nat):n*2^(32*(q/32))*2^(q%32)=n*2^q:=by
  rw[Nat.mul_assoc,<- Nat.pow_add,show 32*(q/32)+q%32=q by omega]
theorem aaq(v:Value)(l:List Nat)(w:World)(h:NU w v l)(q:Nat)(hq:q<=1099511627776)(Z:l.length<=1099511627776):Ret Tryz.prog 172 [v,.int .i64 (q:Int)] w λu w'=>NU w' u (wd (val l*2^q))/\Chg [] w w'/\Fh w u:=by
 obtain ⟨⟨al,cl,rfl,M,J⟩,Q,a0⟩:=h;have d:=crf w;have g:=pow_lt32 (r:=q%32) (Nat.mod_lt _ oD);refine zE2 Tryz.func172 rfl ?_;refine Sr λ_ I=>za rfl (zz (I (zc λ_ H=>Sr λ_ G=>zm rfl (zL rfl rfl (zz (G ?_))))));refine zy rfl ?_ ?_<;>intro O<;>try simp only[qs] at O
 ·exfalso;omega
 refine zkk (H (Sr λ_ F=>zm rfl ?_));refine WL.ev (Ev.b1x (b:=32) rfl rfl oO (by simp only[IntKind.max,IntKind.signed,IntKind.bits];omega) oO) rfl ?_;rw[show (q:Int)/32=((q/32:Nat):Int) by omega];refine WL.bcq ((q/32)) ((q/32)) rfl rfl oO oO oO oO oO rfl λa3 T B s p=>?_;have e:=Nat.le_trans d.size p;have d:=d.ta s;have a:=GR.of_OB (lo:=w.heap.size) (X:=[]) (k:=q/32) B oS oT e oS;rw[List.take_replicate,Nat.min_self,List.length_replicate] at a;refine za rfl (zz (F (Sr λ_ D=>zm rfl (zm rfl ?_))));refine WL.c1j (f:=kZ) (lo:=w.heap.size) (X:=[]) (l:=(List.replicate (q/32) 0)) (news:=l) (by rfl) (λi=>rfl) rfl rfl a (by first|rfl|(simp;done)|(simp;omega)|omega) (J.q8 d) (by first|omega|exact d.size|exact Nat.le_refl _) oS (by simp only[List.length_replicate];omega) (by simp only[List.length_replicate];omega) rfl λY V z t=>?_;have d:=GR.frame a t d (by first|omega|exact Nat.le_refl _);have a:=z;refine za rfl (zz (D (Sr λ_ y=>zm rfl (zm rfl ?_))));refine WL.ev (Ev.dhx (b:=32) rfl rfl oO) rfl ?_;refine WL.ev (Ev.shlOne rfl rfl g) rfl ?_;refine WL.buildSlice (m:=1) (cs:=[kZ (2^(q%32))]) oD oD rfl oR rfl λR C j=>?_;have n:=j.chg;have o:=j.ge;have A:OB C R _ [2^(q%32)]:=j.at_;have x:=Nat.le_trans d.size o;have d:=d.ta n;have a:=a.q8 n;refine WL.call hasF165 rfl rfl (awx _ _ _ _ _ (a.nu (apq.2 ⟨oJ _,Q⟩) (by simp only[List.length_append,List.length_replicate];omega)) (NU.nX (l:=[2^(q%32)]) A (zX.2 ⟨g,ayx⟩) oS rfl oO) (by simp only[List.length_append,List.length_replicate,List.length_cons,List.length_nil];omega)) λv w1 h'=>?_;obtain ⟨U,hC,hF⟩:=h';rw[val_zeros,crx _ g,up_pow] at U;have hF:=hF.mono d.size;have d:=d.ta hC;refine za rfl (zz (y ?_));refine zr (zr1 rfl rfl ?_);exact ⟨U,d,hF⟩
def FO(w:World)(u:Value)(x:Option Dy):Prop:=(∃ r d,x=some d/\u = .tuple [.agg [.bool d.neg,r,.int .i64 d.e].toArray,.bool true].toArray/\NU w r (wd d.m))\/(x=none/\u = .tuple [.agg [.bool false,.slice none 0 0,.int .i64 0].toArray,.bool false].toArray)
theorem c3x(v:Value)(l:List Nat)(q:Nat)(w:World)(h:NU w v l)(d:q<=1099511627776)(a:l.length<=1099511627776):Ret Tryz.prog 172 [v,.int .i64 (-(q:Int))] w λu w'=>NU w' u (wd (val l/2^q))/\Chg [] w w':=by
  rcases Nat.eq_zero_or_pos q with rfl|g
  · rw[show (-((0:Nat):Int))=((0:Nat):Int) by simp]
    have:=aaq v l w h 0 oO a;refine Ret.mono this λu w' e=>?_;obtain ⟨b,f,_⟩:=e;rw[Nat.pow_zero,Nat.mul_one] at b;exact ⟨by rw[Nat.pow_zero,Nat.div_one];exact b,f⟩
  exact csj v l w h q g d a
theorem a3q(neg:Bool)(v:Value)(l:List Nat)(e:Int)(w:World)(h:NU w v l)(he : -9223372036854775808<=e/\e<=9223372036854775807)(c5:l.length<=34359738368):Ret Tryz.prog 187 [.bool neg,v,.int .i64 e] w λu w'=>FO w' u (cX neg (val l) e)/\Chg [] w w':=by
 obtain ⟨A,s⟩ : ∃ A,A=wd (val l):=⟨_,rfl⟩;have p:val A=val l:=by rw[s];exact g7 _
 have b1:=bZ h.hw;rw[<- s] at b1;have a:=crf w;refine zE3 Tryz.func187 rfl ?_;refine Sr λ_ a0=>?_;refine zAh rfl rfl a λb6 b9 d b3 b2 I a=>?_;refine za rfl (zz (a0 (Sr λ_ Z=>zm rfl ?_)));refine WL.call hasF224 rfl rfl (wZ _ _ _ (h.q8 a) (by rw[<- s];omega)) λv w1 T=>?_;obtain ⟨j,o,d1⟩:=T;rw[<- s] at j;have R:=j;obtain ⟨⟨a1,c1,rfl,a8,c4⟩,d0,c7⟩:=R;have a:=a.ta o;have d:=d.k0 o;refine za rfl (zz (Z (zc λ_ Y=>Sr λ_ X=>zm rfl (zn rfl (zq rfl rfl (zz (X ?_)))))));refine zy rfl ?_ ?_<;>intro r<;>try simp only[qs] at r
 ·refine Sr λ_ V=>?_
  refine WL.ev (Ev.build (vs:=_) (cs:=[_,_,_]) rfl rfl) rfl ?_;refine zss rfl rfl ao d rfl λb8 b O=>?_;(try simp only[qt] at b);have a:=a.s1 O;have d:=b;refine za rfl (zz (V ?_));refine zr (k9.iX rfl (aZ.cell rfl (d.fJ rfl rfl)) (aZ.tmp rfl) ?_);have a3:val l=0:=by rw[<- p,List.length_eq_zero_iff.1 (show A.length=0 by omega)];rfl
  rw[a3,kX];exact ⟨.inl ⟨_,_,rfl,rfl,by rw[show Dy.zero.m=0 from rfl,fX];exact NU.nil⟩,a⟩
 have i:val l≠0:=λe0=>by rw[e0,fX] at s;rw[s] at r;exact r rfl
 obtain ⟨q,t⟩ : ∃ q,q=tz (val l):=⟨_,rfl⟩;have a4:=zJ i;have c8:bl (val l)<=32*A.length:=by rw[bdq,<- s];exact Nat.le_refl _
 rw[<- t] at a4;refine zkk (Y (Sr λ_ H=>zm rfl ?_));refine WL.call hasF238 rfl rfl (r2Low_spec _ _ _ j oO) λv w2 T=>?_;obtain ⟨rfl,rfl⟩:=T;rw[p,<- t];refine za rfl (zz (H (zc λ_ G=>?_)));refine CW.oX 31 (decide ((1048576<e\/1048576<e+(q:Int))\/e+(q:Int) < -1048576)) ?_ ?_
 ·refine zS λ_ g=>zm rfl (zG rfl rfl (zm rfl ?_));refine zb ?_ ?_<;>intro a6<;>try simp only[qs] at a6
  ·refine zv rfl (zv rfl (zv rfl (zv rfl (zt rfl rfl (zm rfl (zv rfl (zv rfl (zv rfl (zv rfl (zt rfl rfl (zz (g ?_))))))))))));refine ⟨rfl,rfl,j0.g8 rfl ?_ ?_⟩
   ·first|(simp;omega)|(simp_all;done)|(refine decide_eq_decide.2 ?_;omega)
   exact SMg
  refine zw rfl (zm rfl (zw rfl (zm rfl (zw rfl ?_))));(first|refine zi rfl rfl ?_|refine zo rfl rfl ?_);refine zw rfl (zG rfl rfl (ze rfl rfl (zm rfl ?_)));refine zb ?_ ?_<;>intro a5<;>try simp only[qs] at a5
  ·refine zv rfl (zv rfl (zv rfl (zv rfl (zt rfl rfl (zz (g ?_))))));refine ⟨rfl,rfl,j0.g8 rfl ?_ ?_⟩
   ·first|(simp;omega)|(simp_all;done)|(refine decide_eq_decide.2 ?_;omega)
   exact SMg
  refine zw rfl (zm rfl (zw rfl (zm rfl (zw rfl ?_))));(first|refine zi rfl rfl ?_|refine zo rfl rfl ?_);refine zw rfl (zL rfl rfl (ze rfl rfl (zz (g ?_))));refine ⟨rfl,rfl,j0.g8 rfl ?_ ?_⟩
  ·first|(simp;omega)|(simp_all;done)|(refine decide_eq_decide.2 ?_;omega)
  exact SMg
 refine zy rfl ?_ ?_<;>intro b0<;>try simp only[qs] at b0
 ·refine Sr λ_ F=>?_
  refine WL.ev (Ev.build (vs:=_) (cs:=[_,_,_]) rfl rfl) rfl ?_;refine zss rfl rfl ao d rfl λb7 b M=>?_;(try simp only[qt] at b);have a:=a.s1 M;have d:=b;refine za rfl (zz (F ?_));refine zr (k9.iX rfl (aZ.cell rfl (d.fJ rfl rfl)) (aZ.tmp rfl) ?_);rw[bux i (by rw[<- t];omega)];exact ⟨.inr ⟨rfl,rfl⟩,a⟩
 refine zkk (G (Sr λ_ D=>zm rfl (zm rfl ?_)));refine WL.ev (Ev.bpx rfl oO) rfl ?_;refine WL.call hasF172 rfl rfl (c3x _ _ q _ j oO oO) λv w3 T=>?_;obtain ⟨f,n⟩:=T;rw[p] at f;obtain ⟨B,U⟩ : ∃ B,B=wd (val l/2^q):=⟨_,rfl⟩;rw[<- U] at f;have Q:=f;obtain ⟨⟨a2,c2,rfl,a7,c3⟩,c9,c6⟩:=Q;have a:=a.ta n;have d:=d.k0 n;refine za rfl (zz (D (zc λ_ C=>Sr λ_ z=>zm rfl (zn rfl (zG rfl rfl (zz (z ?_)))))));refine zy rfl ?_ ?_<;>intro a9<;>try simp only[qs] at a9
 ·refine Sr λ_ y=>?_
  refine WL.ev (Ev.build (vs:=_) (cs:=[_,_,_]) rfl rfl) rfl ?_;refine zss rfl rfl ao d rfl λb5 b J=>?_;(try simp only[qt] at b);have a:=a.s1 J;have d:=b;refine za rfl (zz (y ?_));refine zr (k9.iX rfl (aZ.cell rfl (d.fJ rfl rfl)) (aZ.tmp rfl) ?_);rw[bux i (by rw[<- t,<- U];omega)];exact ⟨.inr ⟨rfl,rfl⟩,a⟩
 refine zkk (C (Sr λ_ x=>zm rfl (zm rfl (zm rfl (zm rfl ?_)))));(first|refine zi rfl rfl ?_|refine zo rfl rfl ?_);refine WL.ev (Ev.build (vs:=_) (cs:=[_,_,_]) rfl rfl) rfl ?_;refine zss rfl rfl ao d rfl λb4 b k=>?_;(try simp only[qt] at b);have a:=a.s1 k;have f:=f.q9 d k an;have d:=b;refine za rfl (zz (x ?_));refine zr (k9.iX rfl (aZ.cell rfl (d.fJ rfl rfl)) (aZ.tmp rfl) ?_);rw[sJ i (by rw[<- t,<- U];omega),<- t];refine ⟨.inl ⟨_,_,rfl,rfl,?_⟩,a⟩;simp only;rw[<- U];exact f
theorem a3x(neg:Bool)(v:Value)(l:List Nat)(e:Int)(w:World)(h:NU w v l)(Y : -9223372036854775808<=e/\e<=9223372036854775807)(I:l.length<=34359738368):Ret Tryz.prog 164 [.bool neg,v,.int .i64 e] w λu w'=>DR w' u (cX neg (val l) e)/\Chg [] w w':=by
 have b:=crf w;refine zE3 Tryz.func164 rfl ?_;refine Sr λ_ H=>?_;refine zAh rfl rfl b λb6 V a A O y b=>?_;have h:=h.q8 A;refine za rfl (zz (H (Sr λ_ s=>zm rfl (zm rfl (zm rfl ?_)))));refine WL.call hasF187 rfl rfl (a3q neg v l e _ h Y I) λv w1 Z=>?_;obtain ⟨J,B⟩:=Z;have b:=b.ta B;have a:=a.k0 B;rcases J with ⟨X,d1,r,rfl,d⟩|⟨r,rfl⟩
 ·refine zm rfl (zx rfl rfl (zx rfl rfl ?_));refine zAh rfl rfl b λb8 C j g m k b=>?_;have d:=d.q8 g;have o:=zdd a.lt m;have a:=a.k0 g;refine zss rfl rfl ao j rfl λU i n=>?_;(try simp only[qt] at i);have b:=b.s1 n;have a:=a.kq n;have d:=d.q9 j n an;have j:=i;refine za rfl (zz (s (zc λ_ G=>Sr λ_ F=>zm rfl (zT rfl (zz (F ?_))))));refine CW.mQ rfl ?_;refine zkk (G (Sr λ_ D=>zg j rfl ?_));refine zss rfl rfl ao a rfl λT f q=>?_;(try simp only[qt] at f);have b:=b.s1 q;have d:=d.q9 a q an;have a:=f;refine za rfl (zz (D ?_));refine zr (k9.iX rfl (aZ.cell rfl (a.fJ rfl rfl)) (aZ.tmp rfl) ?_);exact ⟨.inl ⟨X,d1,r,rfl,d⟩,b⟩
 refine zm rfl (zx rfl rfl (zx rfl rfl ?_));refine zAh rfl rfl b λb8 C j g m k b=>?_;have o:=zdd a.lt m;have a:=a.k0 g;refine zss rfl rfl ao j rfl λR i p=>?_;(try simp only[qt] at i);have b:=b.s1 p;have a:=a.kq p;refine za rfl (zz (s (zc λ_ M=>Sr λ_ x=>zm rfl (zT rfl (zz (x ?_))))));refine CW.nJ rfl ?_;refine Sr λ_ t=>?_;refine WL.ev (Ev.build (vs:=_) (cs:=[_,_,_]) rfl rfl) rfl ?_;refine zss rfl rfl ao a rfl λQ f z=>?_;(try simp only[qt] at f);have b:=b.s1 z;have a:=f;refine za rfl (zz (t ?_));refine zr (k9.iX rfl (aZ.cell rfl (a.fJ rfl rfl)) (aZ.tmp rfl) ?_);exact ⟨.inr ⟨r,rfl⟩,b⟩
theorem rQ(y:Bool)(x:Value)(s:List Nat)(r:Int)(w:World)(k:NU w x s)(B : -9223372036854775808<=r/\r<=9223372036854775807)(A:s.length<=34359738368):Ret Tryz.prog 154 [.agg [.bool y,x,.int .i64 r].toArray] w λu w'=>FO w' u (cX y (val s) r)/\Chg [] w w':=by
 have a:=crf w;have M:=k.one;refine zE1 Tryz.func154 rfl ?_;refine Sr λ_ z=>?_;refine zBh rfl rfl rfl a λU I e p F n a=>?_;have k:=k.q8 p;refine zAh rfl rfl a λT H b h o m a=>?_;have k:=k.q8 h;have t:=zdd e.lt o;have e:=e.k0 h;refine za rfl (zz (z (Sr λ_ l=>zf rfl (zl e rfl rfl (zf rfl (zl e rfl rfl (zf rfl (zl e rfl rfl ?_))))))));refine WL.call hasF187 rfl rfl (a3q y x s r _ k B A) λv R O=>?_;obtain ⟨C,q⟩:=O;have a:=a.ta q;have b:=b.k0 q;rcases C with ⟨J,Q,i,rfl,f⟩|⟨i,rfl⟩
 ·refine zx rfl rfl (zx rfl rfl ?_);refine zss rfl rfl ao b rfl λG d g=>?_;(try simp only[qt] at d);have a:=a.s1 g;have f:=f.q9 b g an;have b:=d;refine za rfl (zz (l ?_));refine zr (k9.iX rfl (aZ.cell rfl (b.fJ rfl rfl)) (aZ.tmp rfl) ?_);exact ⟨.inl ⟨J,Q,i,rfl,f⟩,a⟩
 refine zx rfl rfl (zx rfl rfl ?_);refine zss rfl rfl ao b rfl λD d j=>?_;(try simp only[qt] at d);have a:=a.s1 j;have b:=d;refine za rfl (zz (l ?_));refine zr (k9.iX rfl (aZ.cell rfl (b.fJ rfl rfl)) (aZ.tmp rfl) ?_);exact ⟨.inr ⟨i,rfl⟩,a⟩
theorem b0x(w:World):Ret Tryz.prog 162 [] w λu w'=>u = .agg [.int .i64 53,.int .i64 (-1074),.int .u64 9218868437227405312].toArray/\Chg [] w w':=by
 have a:=crf w;refine zE0 Tryz.func162 rfl ?_;refine Sr λ_ j=>?_;refine WL.iZ (l:=[.int .i64 0,.int .i64 0,.int .u64 0]) rfl rfl λn m e h g=>?_;have f:=Nat.le_trans a.size g;have a:=a.ta h;refine zz (j (Sr λ_ i=>?_));refine WL.ev (Ev.build (vs:=_) (cs:=[_,_,_]) rfl rfl) rfl ?_;refine zss rfl rfl ao e rfl λk b d=>?_;(try simp only[qt] at b);have a:=a.s1 d;have e:=b;refine zz (i ?_);refine zr (k9.qJ rfl (aZ.cell rfl (e.fJ rfl rfl)) ?_);exact ⟨rfl,a⟩
def aoq(k:Nat):Nat:=if k/4503599627370496=0 then k%4503599627370496 else 4503599627370496+k%4503599627370496
def pZ(k:Nat):Int:=if k/4503599627370496=0 then -1074 else -1074+((k/4503599627370496:Nat):Int)-1
theorem b6q(k:Nat):aoq k<9007199254740992:=by unfold aoq;split<;>omega
theorem a1j(k:Nat)(h:k<18446744073709551616): -1074<=pZ k/\pZ k<=3100:=by unfold pZ;split<;>omega
def dvj(neg:Bool)(k:Nat):Option Dy:=if 9218868437227405312<=k then none else cX neg (aoq k) (pZ k)
theorem qZ(k:Nat)(w:World)(T:k<18446744073709551616):Ret Tryz.prog 226 [.agg [.int .i64 53,.int .i64 (-1074),.int .u64 9218868437227405312].toArray,.int .u64 (k:Int)] w λu w'=>(∃ r,u = .tuple [r,.int .i64 (pZ k)].toArray/\NU w' r (wd (aoq k)))/\Chg [] w w':=by
 have d:=crf w;refine zE2 Tryz.func226 rfl ?_;refine Sr λ_ B=>?_;refine zBh rfl rfl rfl d λU O g M J q d=>?_;refine za rfl (za rfl (zz (B (Sr λ_ A=>zf rfl (zl g rfl rfl ?_)))));refine WL.ev (Ev.dX rfl rfl oO) rfl ?_;rw[show (53:Int)-1=((52:Nat):Int) by omega];refine WL.ev (Ev.eZ rfl rfl (jX oO)) rfl ?_;refine WL.ev (Ev.aqx (a:=1) (b:=52) rfl rfl) rfl ?_;rw[show 1*2^52%18446744073709551616=4503599627370496 from rfl];refine za rfl (zz (A (Sr λ_ z=>zm rfl (zm rfl ?_))));refine WL.ev (Ev.dlq (b:=4503599627370496) rfl rfl oO (jX oO).2) rfl ?_;refine za rfl (zz (z (Sr λ_ y=>zm rfl (zm rfl ?_))));refine WL.ev (Ev.dhx (b:=4503599627370496) rfl rfl oO) rfl ?_;refine za rfl (zz (y (zc λ_ x=>Sr λ_ o=>zm rfl (zq rfl rfl (zz (o ?_))))));refine zy rfl ?_ ?_<;>intro C<;>try simp only[qs] at C
 ·have p:k/4503599627370496=0:=by omega
  have G:aoq k=k%4503599627370496:=by unfold aoq;rw[if_pos p]
  have F:pZ k = -1074:=by unfold pZ;rw[if_pos p]
  refine zc λ_ n=>?_;refine CW.cQ 6 rfl dZ λI l e h=>?_;have d:=d.ta h;have g:=g.k0 h;have f:=g;refine wh 0 rfl e (eM rfl) (wh 2 rfl e (eF rfl) (wh 3 rfl e (λ_ i=>Ev.load rfl rfl ((f.q8 i).at_ rfl)) ?_));refine WH.k7 1 rfl oR hasF159 rfl rfl (bnx (k%4503599627370496) _ oO) λv R D=>?_;obtain ⟨s,t,hF⟩:=D;rw[<- G] at s;have d:=d.ta t;have e:=e.trans t;refine ⟨e,?_⟩;refine wh 4 rfl e (eA rfl) (wh 5 rfl e (eA rfl) ?_);refine WH.done oR (l _ _ _ ?_);refine n ?_;refine zr (zr2 rfl rfl rfl ?_);rw[F];exact ⟨⟨_,rfl,s⟩,d⟩
 have p:k/4503599627370496≠0:=by omega
 have G:aoq k=4503599627370496+k%4503599627370496:=by unfold aoq;rw[if_neg p]
 have F:pZ k = -1074+((k/4503599627370496:Nat):Int)-1:=by unfold pZ;rw[if_neg p]
 refine zkk (x (zc λ_ m=>?_));refine CW.cQ 12 rfl dZ λH j e h=>?_;have d:=d.ta h;have g:=g.k0 h;have f:=g;refine wh 0 rfl e (eM rfl) (wh 1 rfl e (eM rfl) (wh 2 rfl e (λ_ _=>Ev.iJ rfl rfl oO) (wh 4 rfl e (eF rfl) (wh 5 rfl e (λ_ i=>Ev.load rfl rfl ((f.q8 i).at_ rfl)) (wh 6 rfl e (eM rfl) (wh 7 rfl e (λ_ _=>Ev.eZ rfl rfl (tX oO)) (wh 8 rfl e (λ_ _=>Ev.kQ rfl rfl oO) (wh 9 rfl e (λ_ _=>Ev.dX rfl rfl oO) ?_))))))));refine WH.k7 3 rfl oR hasF159 rfl rfl (bnx (4503599627370496+k%4503599627370496) _ oO) λv Q D=>?_;obtain ⟨s,t,hF⟩:=D;rw[<- G] at s;have d:=d.ta t;have e:=e.trans t;refine ⟨e,?_⟩;refine wh 10 rfl e (eA rfl) (wh 11 rfl e (eA rfl) ?_);refine WH.done oR (j _ _ _ ?_);refine m ?_;refine zr (zr2 rfl rfl rfl ?_);rw[F];exact ⟨⟨_,rfl,s⟩,d⟩
theorem r3Bits_spec(neg:Bool)(k:Nat)(w:World)(O:k<18446744073709551616):Ret Tryz.prog 163 [.agg [.int .i64 53,.int .i64 (-1074),.int .u64 9218868437227405312].toArray,.bool neg,.int .u64 (k:Int)] w λu w'=>FO w' u (dvj neg k)/\Chg [] w w':=by
 have a:=crf w;have Y:=b6q k;have Z:=a1j k O;refine zE3 Tryz.func163 rfl ?_;refine Sr λ_ C=>?_;refine zBh rfl rfl rfl a λb3 V g R Q p a=>?_;refine zAh rfl rfl a λb6 U b s q o a=>?_;have x:=zdd g.lt q;have g:=g.k0 s;refine za rfl (zz (C (zc λ_ B=>Sr λ_ A=>zm rfl (zf rfl (zl g rfl rfl ?_)))));refine WL.ev (Ev.geq rfl rfl) rfl ?_;refine zz (A ?_);refine zy rfl ?_ ?_<;>intro F<;>try simp only[qs] at F
 ·have D:9218868437227405312<=k:=by omega
  refine Sr λ_ z=>?_;refine WL.ev (Ev.build (vs:=_) (cs:=[_,_,_]) rfl rfl) rfl ?_;refine zss rfl rfl ao b rfl λM d l=>?_;(try simp only[qt] at d);have a:=a.s1 l;have b:=d;refine za rfl (zz (z ?_));refine zr (k9.iX rfl (aZ.cell rfl (b.fJ rfl rfl)) (aZ.tmp rfl) ?_);unfold dvj;rw[if_pos D];exact ⟨.inr ⟨rfl,rfl⟩,a⟩
 have m : ¬9218868437227405312<=k:=by omega
 refine zkk (B (Sr λ_ y=>zg g rfl (zm rfl ?_)));refine WL.call hasF226 rfl rfl (qZ k _ O) λv w1 H=>?_;obtain ⟨⟨r,rfl,hN⟩,T⟩:=H;have a:=a.ta T;have b:=b.k0 T;refine zm rfl (zx rfl rfl (zx rfl rfl (za rfl (za rfl (zz (y (Sr λ_ i=>zm rfl (zm rfl (zm rfl ?_)))))))));refine WL.call hasF187 rfl rfl (a3q neg r _ (pZ k) _ hN oO (by have:=aX (n:=aoq k) (k:=2);have:=this.2 oO;omega)) λv w2 H=>?_;obtain ⟨G,t⟩:=H;have a:=a.ta t;have b:=b.k0 t;rcases G with ⟨X,d1,e,rfl,h⟩|⟨e,rfl⟩
 ·rw[g7] at e;refine zx rfl rfl (zx rfl rfl ?_);refine zss rfl rfl ao b rfl λJ d f=>?_;(try simp only[qt] at d);have a:=a.s1 f;have h:=h.q9 b f an;have b:=d;refine za rfl (zz (i ?_));refine zr (k9.iX rfl (aZ.cell rfl (b.fJ rfl rfl)) (aZ.tmp rfl) ?_);unfold dvj;rw[if_neg m];exact ⟨.inl ⟨X,d1,e,rfl,h⟩,a⟩
 rw[g7] at e;refine zx rfl rfl (zx rfl rfl ?_);refine zss rfl rfl ao b rfl λI d j=>?_;(try simp only[qt] at d);have a:=a.s1 j;have b:=d;refine za rfl (zz (i ?_));refine zr (k9.iX rfl (aZ.cell rfl (b.fJ rfl rfl)) (aZ.tmp rfl) ?_);unfold dvj;rw[if_neg m];exact ⟨.inr ⟨e,rfl⟩,a⟩
def OF(w:World)(u:Value)(x:Option Dy):Prop:=(∃ r d,x=some d/\u = .tuple [.agg [.bool d.neg,r,.int .i64 d.e].toArray,.int .i64 0].toArray/\NU w r (wd d.m))\/(x=none/\u = .tuple [.agg [.bool false,.slice none 0 0,.int .i64 0].toArray,.int .i64 30].toArray)
def dtq(x:Nat):Option Dy:=dvj (decide (x/9223372036854775808=1)) (x%9223372036854775808)
theorem r3Of_spec(x:Nat)(w:World)(hx:x<18446744073709551616):Ret Tryz.prog 95 [.float .f64 x] w λu w'=>OF w' u (dtq x)/\Chg [] w w':=by
 have d:=crf w;refine zE1 Tryz.func95 rfl ?_;refine Sr λ_ G=>?_;refine zAh rfl rfl d λb2 X a U T z d=>?_;refine za rfl (zz (G (Sr λ_ F=>zm rfl ?_)));refine WL.ev (Ev.ext rfl (ext48 _ _)) rfl ?_;refine za rfl (zz (F (Sr λ_ r=>?_)));refine WL.call hasF162 rfl rfl (b0x _) λv w1 I=>?_;obtain ⟨rfl,V⟩:=I;have d:=d.ta V;have a:=a.k0 V;refine zm rfl ?_;refine WL.ev (Ev.avx (b:=63) rfl rfl (by simp only[IntKind.bits];omega)) rfl ?_;rw[show x/2^63=x/9223372036854775808 from rfl];refine zq rfl rfl ?_;rw[show decide (((x/9223372036854775808:Nat):Int)=1)=decide (x/9223372036854775808=1) from decide_eq_decide.2 oO];refine zm rfl ?_;refine WL.ev (Ev.aqx (b:=1) rfl rfl) rfl ?_;refine WL.ev (Ev.avx (b:=1) rfl rfl (by simp only[IntKind.bits];omega)) rfl ?_;rw[show x*2^1%18446744073709551616/2^1=x%9223372036854775808 by omega];refine WL.call hasF163 rfl rfl (r3Bits_spec _ (x%9223372036854775808) _ oO) λv w2 I=>?_;obtain ⟨H,A⟩:=I;have d:=d.ta A;have a:=a.k0 A;rcases H with ⟨Y,Z,p,rfl,e⟩|⟨p,rfl⟩
 ·refine zm rfl (zx rfl rfl (zx rfl rfl ?_));refine zAh rfl rfl d λb5 B j h l k d=>?_;have e:=e.q8 h;have o:=zdd a.lt l;have a:=a.k0 h;refine zss rfl rfl ao j rfl λQ i g=>?_;(try simp only[qt] at i);have d:=d.s1 g;have a:=a.kq g;have e:=e.q9 j g an;have j:=i;refine za rfl (zz (r (zc λ_ D=>Sr λ_ C=>zm rfl (zT rfl (zz (C ?_))))));refine CW.mQ rfl ?_;refine zkk (D (Sr λ_ y=>zg j rfl ?_));refine zss rfl rfl ao a rfl λO f n=>?_;(try simp only[qt] at f);have d:=d.s1 n;have e:=e.q9 a n an;have a:=f;refine za rfl (zz (y ?_));refine zr (k9.iX rfl (aZ.cell rfl (a.fJ rfl rfl)) (aZ.tmp rfl) ?_);exact ⟨.inl ⟨Y,Z,p,rfl,e⟩,d⟩
 refine zm rfl (zx rfl rfl (zx rfl rfl ?_));refine zAh rfl rfl d λb5 B j h l k d=>?_;have o:=zdd a.lt l;have a:=a.k0 h;refine zss rfl rfl ao j rfl λM i m=>?_;(try simp only[qt] at i);have d:=d.s1 m;have a:=a.kq m;refine za rfl (zz (r (zc λ_ R=>Sr λ_ t=>zm rfl (zT rfl (zz (t ?_))))));refine CW.nJ rfl ?_;refine Sr λ_ s=>?_;refine WL.ev (Ev.build (vs:=_) (cs:=[_,_,_]) rfl rfl) rfl ?_;refine zss rfl rfl ao a rfl λJ f q=>?_;(try simp only[qt] at f);have d:=d.s1 q;have a:=f;refine za rfl (zz (s ?_));refine zr (k9.iX rfl (aZ.cell rfl (a.fJ rfl rfl)) (aZ.tmp rfl) ?_);exact ⟨.inr ⟨p,rfl⟩,d⟩
theorem baj(n:Int)(w:World)(hn : -9223372036854775808<=n/\n<=9223372036854775807):Ret Tryz.prog 109 [.int .i64 n] w λu w'=>DY w' u (cJ n)/\Chg [] w w':=by
 have b:=crf w;refine zE1 Tryz.func109 rfl ?_;refine Sr λ_ U=>?_;refine zAh rfl rfl b λb2 a3 a a2 a1 H b=>?_;refine zz (U (Sr λ_ T=>zm rfl ?_));refine WL.ev (Ev.conv rfl rfl) rfl ?_;rw[wX];refine za rfl (zz (T (zc λ_ C=>Sr λ_ R=>zm rfl (zL rfl rfl (zz (R ?_))))));refine zy rfl ?_ ?_<;>intro V<;>try simp only[qs] at V
 ·refine zR λ_ O=>?_
  refine zm rfl ?_;refine WL.ev (Ev.sub rfl rfl) rfl ?_;rw[wX,show (0-n%18446744073709551616)%18446744073709551616=((n.natAbs:Nat):Int) by omega];have A:n.natAbs=n.natAbs:=rfl;refine za rfl ?_;refine WL.nil (O _ _ _ (C ?_));refine Sr λ_ Q=>zm rfl (zL rfl rfl (zm rfl ?_));refine WL.call hasF159 rfl rfl (bnx n.natAbs _ oO) λv w1 B=>?_;obtain ⟨x,l,I⟩:=B;have b:=b.ta l;have a:=a.k0 l;refine WL.call hasF187 rfl rfl (a3q _ _ _ 0 _ x oO (by have:=aX (n:=n.natAbs) (k:=2);have:=this.2 oO;omega)) λv w2 B=>?_;obtain ⟨J,j⟩:=B;rw[g7,A,bhx oO] at J;rcases J with ⟨r,d,z,rfl,e⟩|⟨z,rfl⟩
  rotate_left
  · cases z
  cases z;have b:=b.ta j;have a:=a.k0 j;refine zm rfl (zx rfl rfl (zx rfl rfl ?_));refine zAh rfl rfl b λb4 M f g q p b=>?_;have e:=e.q8 g;have y:=zdd a.lt q;have a:=a.k0 g;refine zss rfl rfl ao f rfl λa0 h o=>?_;(try simp only[qt] at h);have b:=b.s1 o;have a:=a.kq o;have e:=e.q9 f o an;have f:=h;refine za rfl (zz (Q (Sr λ_ G=>zg f rfl ?_)));refine zss rfl rfl ao a rfl λZ i t=>?_;(try simp only[qt] at i);have b:=b.s1 t;have e:=e.q9 a t an;have a:=i;refine zz (G ?_);refine zr (k9.qJ rfl (aZ.cell rfl (a.fJ rfl rfl)) ?_);exact ⟨⟨⟨_,rfl,e⟩⟩,b⟩
 rw[show n%18446744073709551616=((n.natAbs:Nat):Int) by omega];have A:n.natAbs=n.natAbs:=rfl;refine zkk (C (Sr λ_ F=>zm rfl (zL rfl rfl (zm rfl ?_))));refine WL.call hasF159 rfl rfl (bnx n.natAbs _ oO) λv w3 B=>?_;obtain ⟨x,l,I⟩:=B;have b:=b.ta l;have a:=a.k0 l;refine WL.call hasF187 rfl rfl (a3q _ _ _ 0 _ x oO (by have:=aX (n:=n.natAbs) (k:=2);have:=this.2 oO;omega)) λv w4 B=>?_;obtain ⟨J,j⟩:=B;rw[g7,A,bhx oO] at J;rcases J with ⟨r,d,z,rfl,e⟩|⟨z,rfl⟩
 rotate_left
 · cases z
 cases z;have b:=b.ta j;have a:=a.k0 j;refine zm rfl (zx rfl rfl (zx rfl rfl ?_));refine zAh rfl rfl b λb4 M f g q p b=>?_;have e:=e.q8 g;have y:=zdd a.lt q;have a:=a.k0 g;refine zss rfl rfl ao f rfl λY h m=>?_;(try simp only[qt] at h);have b:=b.s1 m;have a:=a.kq m;have e:=e.q9 f m an;have f:=h;refine za rfl (zz (F (Sr λ_ D=>zg f rfl ?_)));refine zss rfl rfl ao a rfl λX i s=>?_;(try simp only[qt] at i);have b:=b.s1 s;have e:=e.q9 a s an;have a:=i;refine zz (D ?_);refine zr (k9.qJ rfl (aZ.cell rfl (a.fJ rfl rfl)) ?_);exact ⟨⟨⟨_,rfl,e⟩⟩,b⟩
theorem bgx(y:Bool)(x:Value)(e:List Nat)(F:Int)(w:World)(k:NU w x e)(s:e.length<=35184372088832):Ret Tryz.prog 157 [.agg [.bool y,x,.int .i64 F].toArray] w λu w'=>u = .int .i64 (sgD y (val e))/\Chg [] w w':=by
 have a:=crf w;have B:=k.one;have C:=aex (n:=val e);refine zE1 Tryz.func157 rfl ?_;refine Sr λ_ r=>?_;refine zBh rfl rfl rfl a λH A j i z h a=>?_;have k:=k.q8 i;refine za rfl (zz (r (zc λ_ q=>Sr λ_ p=>zf rfl (zl j rfl rfl ?_))));refine WL.call hasF223 rfl rfl (bbq _ _ _ k s) λv G D=>?_;obtain ⟨rfl,rfl⟩:=D;refine zq rfl rfl (zz (p ?_));refine zy rfl ?_ ?_<;>intro t<;>try simp only[qs] at t
 ·refine Sr λ_ o=>za rfl (zz (o ?_));refine zr (zr1 rfl rfl ?_);unfold sgD;rw[if_pos oO];exact ⟨rfl,a⟩
 refine zkk (q (zc λ_ m=>Sr λ_ l=>zf rfl (zl j rfl rfl (zz (l ?_)))));refine zy rfl ?_ ?_<;>intro d<;>try simp only[qs] at d
 ·have b:=d
  refine Sr λ_ g=>za rfl (zz (g ?_));refine zr (zr1 rfl rfl ?_);unfold sgD;rw[if_neg (show ¬val e=0 by omega),if_pos b];exact ⟨rfl,a⟩
 have b:=d;refine zkk (m (Sr λ_ f=>za rfl (zz (f ?_))));refine zr (zr1 rfl rfl ?_);unfold sgD;rw[if_neg (show ¬val e=0 by omega),if_neg (by rw[b];decide)];exact ⟨rfl,a⟩
theorem cvq{x y:Dy}(d:x.ok)(b:y.ok):cX (x.neg != y.neg) (x.m*y.m) (x.e+y.e)=gX x y:=by
  unfold gX
  split
  · rename_i h
    have a:x.m*y.m≠0:=λe=>by rw[e,fX] at h;simp at h
    have j:x.m≠0:=λe=>a (by rw[e,Nat.zero_mul])
    have i:y.m≠0:=λe=>a (by rw[e,Nat.mul_zero])
    have g:x.m*y.m%2=1:=by rw[Nat.mul_mod,d.odd j,b.odd i]
    have f:=cex g
    exact bux a (by rw[f,Nat.pow_zero,Nat.div_one];omega)
  · rfl
theorem up_len_gen{m k a b:Nat}(d:(wd m).length<=a)(e:k<=32*b):(wd (m*2^k)).length<=a+b:=by
  refine aX.2 ?_
  have g:=aX.1 d
  have f:2^k<=2^(32*b):=Nat.pow_le_pow_right oD e
  refine Nat.lt_of_lt_of_le (Nat.mul_lt_mul_of_lt_of_le g f (Nat.two_pow_pos _)) ?_
  rw[<- Nat.pow_add,<- Nat.mul_add]
  exact Nat.le_refl _
theorem sum_len_gen{p q a:Nat}(d:(wd p).length<=a)(b:(wd q).length<=a):(wd (p+q)).length<=a+1:=by
  refine aX.2 ?_
  have f:=aX.1 d
  have e:=aX.1 b
  rw[two32]
  generalize 2^(32*a)=z at *
  omega
theorem mul_len{x y a b:Nat}(e:(wd x).length<=a)(d:(wd y).length<=b):(wd (x*y)).length<=a+b:=by
  refine aX.2 ?_
  rw[Nat.mul_add,Nat.pow_add]
  exact Nat.mul_lt_mul_of_lt_of_lt (aX.1 e) (aX.1 d)
theorem up_len{m k:Nat}(a:(wd m).length<=8192)(d:k<=4194304):(wd (m*2^k)).length<=139264:=up_len_gen a (b:=131072) oO
theorem sum_len{p q:Nat}(b:(wd p).length<=8192)(a:(wd q).length<=8192):(wd (p+q)).length<=8193:=sum_len_gen b a
theorem bbx(na nb:Bool)(va vb:Value)(la lb:List Nat)(ea eb:Int)(w:World)(ha:NU w va la)(Y:NU w vb lb)(p3 : -9223372036854775808<=ea/\ea<=9223372036854775807)(m0 : -9223372036854775808<=eb/\eb<=9223372036854775807)(o9:la.length<=34359738368)(l1:lb.length<=34359738368):Ret Tryz.prog 100 [.agg [.bool na,va,.int .i64 ea].toArray,.agg [.bool nb,vb,.int .i64 eb].toArray] w λu w'=>DR w' u (bix yQ (cX na (val la) ea) (cX nb (val lb) eb))/\Chg [] w w':=by
 have b:=crf w;have v0:=ha.one;have u9:=Y.one;refine zE2 Tryz.func100 rfl ?_;refine Sr λ_ n8=>?_;refine zBh rfl rfl rfl b λb2 t9 a7 e8 t4 l8 b=>?_;have ha:=ha.q8 e8;have Y:=Y.q8 e8;refine zBh rfl rfl rfl b λb3 t8 o d5 l9 l7 b=>?_;have ha:=ha.q8 d5;have Y:=Y.q8 d5;have n2:=zdd a7.lt l9;have a7:=a7.k0 d5;refine zAh rfl rfl b λb4 t7 a a9 e7 l6 b=>?_;have ha:=ha.q8 a9;have Y:=Y.q8 a9;have n1:=zdd a7.lt e7;have a7:=a7.k0 a9;have n0:=zdd o.lt e7;have o:=o.k0 a9;refine za rfl (zz (n8 (Sr λ_ i1=>zg a7 rfl ?_)));refine WL.call hasF154 rfl rfl (rQ na va la ea _ ha p3 o9) λv w1 T=>?_;obtain ⟨q0,d8⟩:=T;have b:=b.ta d8;have o:=o.k0 d8;have a:=a.k0 d8;have Y:=Y.q8 d8;rcases q0 with ⟨r1,B,C,rfl,i⟩|⟨C,rfl⟩
 ·have b9:=jZ C;have v3:=b9.e;have l3:=b9.len;obtain ⟨⟨a1,c1,rfl,g0,o3⟩,p9,l3⟩:=i;have i:NU _ (.slice a1 (wd B.m).length c1) (wd B.m):=NU.adx o3 p9 l3 rfl g0;have u4:(wd B.m).length=0↔B.m=0:=by rw[List.length_eq_zero_iff,rJ]
  refine zm rfl (zx rfl rfl (zx rfl rfl ?_));refine zAh rfl rfl b λb6 n3 g F a0 c3 b=>?_;have Y:=Y.q8 F;have i:=i.q8 F;have d7:=zdd o.lt a0;have o:=o.k0 F;have d6:=zdd a.lt a0;have a:=a.k0 F;refine zss rfl rfl ao g rfl λs5 b0 O=>?_;(try simp only[qt] at b0);have b:=b.s1 O;have o:=o.kq O;have a:=a.kq O;have Y:=Y.q9 g O an;have i:=i.q9 g O an;have g:=b0;refine za rfl (zz (i1 (Sr λ_ h4=>zg o rfl ?_)));refine WL.call hasF154 rfl rfl (rQ nb vb lb eb _ Y m0 l1) λv w2 T=>?_;obtain ⟨g4,a8⟩:=T;have b:=b.ta a8;have a:=a.k0 a8;have g:=g.k0 a8;have i:=i.q8 a8;rcases g4 with ⟨r2,z,A,rfl,l⟩|⟨A,rfl⟩
  ·have b7:=jZ A;have v2:=b7.e;have l2:=b7.len;obtain ⟨⟨a2,c2,rfl,f9,o2⟩,p8,l2⟩:=l;have l:NU _ (.slice a2 (wd z.m).length c2) (wd z.m):=NU.adx o2 p8 l2 rfl f9;have u3:(wd z.m).length=0↔z.m=0:=by rw[List.length_eq_zero_iff,rJ]
   refine zm rfl (zx rfl rfl (zx rfl rfl ?_));refine zAh rfl rfl b λb8 f0 h t D J b=>?_;have i:=i.q8 t;have l:=l.q8 t;have V:=zdd a.lt D;have a:=a.k0 t;have m9:=zdd g.lt D;have g:=g.k0 t;refine zss rfl rfl ao h rfl λs4 G M=>?_;(try simp only[qt] at G);have b:=b.s1 M;have a:=a.kq M;have g:=g.kq M;have i:=i.q9 h M an;have l:=l.q9 h M an;have h:=G;refine za rfl (zz (h4 (zc λ_ n7=>Sr λ_ n6=>zm rfl (zT rfl (zm rfl (zw rfl (zm rfl (zw rfl (zT rfl (ze rfl rfl (zz (n6 ?_))))))))))));refine CW.mQ rfl ?_;refine zkk (n7 (zc λ_ k5=>Sr λ_ k4=>zf rfl (zl g rfl rfl (zn rfl (zq rfl rfl (zz (k4 ?_)))))));refine zy rfl ?_ ?_<;>intro p7<;>try simp only[qs] at p7
   ·have U:B.m=0:=by omega
    refine Sr λ_ k3=>zg h rfl ?_;refine zss rfl rfl ao a rfl λs3 f d4=>?_;(try simp only[qt] at f);have b:=b.s1 d4;have l:=l.q9 a d4 an;have a:=f;refine za rfl (zz (k3 ?_));refine zr (k9.iX rfl (aZ.cell rfl (a.fJ rfl rfl)) (aZ.tmp rfl) ?_);rw[C,A];exact ⟨.inl ⟨_,z,by show yQ B z=_;unfold yQ;rw[if_pos U],rfl,l⟩,b⟩
   have U:B.m≠0:=by omega
   refine zkk (k5 (zc λ_ i9=>Sr λ_ i8=>zf rfl (zl h rfl rfl (zn rfl (zq rfl rfl (zz (i8 ?_)))))));refine zy rfl ?_ ?_<;>intro p6<;>try simp only[qs] at p6
   ·have Z:z.m=0:=by omega
    refine Sr λ_ i7=>zg g rfl ?_;refine zss rfl rfl ao a rfl λs0 f d3=>?_;(try simp only[qt] at f);have b:=b.s1 d3;have i:=i.q9 a d3 an;have a:=f;refine za rfl (zz (i7 ?_));refine zr (k9.iX rfl (aZ.cell rfl (a.fJ rfl rfl)) (aZ.tmp rfl) ?_);rw[C,A];exact ⟨.inl ⟨_,B,by show yQ B z=_;unfold yQ;rw[if_neg U,if_pos Z],rfl,i⟩,b⟩
   have Z:z.m≠0:=by omega
   obtain ⟨k1,l5⟩ : ∃ k:Nat,(k:Int)=B.e-min B.e z.e:=⟨(B.e-min B.e z.e).toNat,by omega⟩;obtain ⟨k2,l4⟩ : ∃ k:Nat,(k:Int)=z.e-min B.e z.e:=⟨(z.e-min B.e z.e).toNat,by omega⟩;refine zkk (i9 (Sr λ_ i6=>zf rfl (zl g rfl rfl (zf rfl (zl h rfl rfl ?_)))));refine WL.ev (Ev.minI rfl rfl) rfl ?_;refine za rfl (zz (i6 (Sr λ_ i5=>zf rfl (zl g rfl rfl (zf rfl (zl g rfl rfl (zm rfl ?_)))))));refine WL.ev (Ev.dX rfl rfl oO) rfl ?_;rw[<- l5];refine WL.call hasF172 rfl rfl (aaq _ _ _ i k1 oO oO) λv w3 T=>?_;obtain ⟨s,y,t6⟩:=T;rw[g7] at s;obtain ⟨p,hp⟩ : ∃ p,p=B.m*2^k1:=⟨_,rfl⟩;rw[<- hp] at s;have o8:=up_len b9.len (k:=k1) oO;rw[<- hp] at o8;have m3:=s;obtain ⟨⟨ap,cp,rfl,p5,u7⟩,v5,t3⟩:=m3;have b:=b.ta y;have a:=a.k0 y;have g:=g.k0 y;have h:=h.k0 y;have l:=l.q8 y;refine za rfl (zz (i5 (Sr λ_ i4=>zf rfl (zl h rfl rfl (zf rfl (zl h rfl rfl (zm rfl ?_)))))));refine WL.ev (Ev.dX rfl rfl oO) rfl ?_;rw[<- l4];refine WL.call hasF172 rfl rfl (aaq _ _ _ l k2 oO oO) λv w4 T=>?_;obtain ⟨x,y,t5⟩:=T;rw[g7] at x;obtain ⟨q,hq⟩ : ∃ q,q=z.m*2^k2:=⟨_,rfl⟩;rw[<- hq] at x;have o7:=up_len b7.len (k:=k2) oO;rw[<- hq] at o7;have m2:=x;obtain ⟨⟨aq,cq,rfl,p4,u6⟩,v4,t2⟩:=m2;have b:=b.ta y;have a:=a.k0 y;have g:=g.k0 y;have h:=h.k0 y;have s:=s.q8 y;refine za rfl (zz (i4 (zc λ_ i3=>?_)));refine CW.oX 66 (decide (8192<(wd p).length\/8192<(wd q).length)) ?_ ?_
   ·refine zS λ_ e2=>zm rfl (zn rfl (zG rfl rfl (zm rfl ?_)));refine zb ?_ ?_<;>intro p2<;>try simp only[qs] at p2
    ·refine zv rfl (zv rfl (zv rfl (zt rfl rfl (zz (e2 ?_)))));refine ⟨rfl,rfl,j0.g8 rfl ?_ ?_⟩
     ·first|(simp;omega)|(simp_all;done)|(refine decide_eq_decide.2 ?_;omega)
     exact SMg
    refine zw rfl (zm rfl (zw rfl (zn rfl (zw rfl (zG rfl rfl (ze rfl rfl (zz (e2 ?_))))))));refine ⟨rfl,rfl,j0.g8 rfl ?_ ?_⟩
    ·first|(simp;omega)|(simp_all;done)|(refine decide_eq_decide.2 ?_;omega)
    exact SMg
   have I:p=B.m*2^(B.e-min B.e z.e).toNat:=by rw[hp,<- l5];rfl
   have H:q=z.m*2^(z.e-min B.e z.e).toNat:=by rw[hq,<- l4];rfl
   refine zy rfl ?_ ?_<;>intro g2<;>try simp only[qs] at g2
   ·have f1:=g2
    refine Sr λ_ i2=>?_;refine WL.ev (Ev.build (vs:=_) (cs:=[_,_,_]) rfl rfl) rfl ?_;refine zss rfl rfl ao a rfl λr9 f f8=>?_;(try simp only[qt] at f);have b:=b.s1 f8;have a:=f;refine za rfl (zz (i2 ?_));refine zr (k9.iX rfl (aZ.cell rfl (a.fJ rfl rfl)) (aZ.tmp rfl) ?_);rw[C,A];exact ⟨.inr ⟨by show yQ B z=_;rw[xJ U Z I H,if_pos f1],rfl⟩,b⟩
   have b1 : ¬(8192<(wd p).length\/8192<(wd q).length):=g2;have u5:=sum_len (p:=p) (q:=q) oO oO;refine zkk (i3 (zc λ_ i0=>Sr λ_ h9=>zf rfl (zl g rfl rfl (zf rfl (zl h rfl rfl ?_)))));refine WL.ev (Ev.bdx rfl rfl) rfl ?_;refine zz (h9 ?_);refine zy rfl ?_ ?_<;>intro g1<;>try simp only[qs] at g1
   ·have a5:B.neg=z.neg:=by simpa using g1
    refine zc λ_ e6=>?_;refine CW.gJ 9 11 rfl dZ λt1 e1 j n=>?_;have b:=b.ta n;have a:=a.k0 n;have g:=g.k0 n;have s:=s.q8 n;have x:=x.q8 n;have a6:=g;refine wk 0 rfl j (eF rfl) (wk 1 rfl j (λ_ b5=>Ev.load rfl rfl ((a6.q8 b5).at_ rfl)) (wk 2 rfl j (eM rfl) (wk 3 rfl j (eM rfl) (wk 5 rfl j (eM rfl) ?_))));refine WK.k7 4 rfl oR hasF173 rfl rfl (b0q _ _ _ _ _ s x oO oO) λv w5 T=>?_;obtain ⟨a3,y,m4⟩:=T;rw[g7,g7] at a3;have b:=b.ta y;have a:=a.k0 y;have j:=j.trans y;refine ⟨j,?_⟩;refine WK.k7 6 rfl oR hasF164 rfl rfl (a3x _ _ _ _ _ a3 oO oO) λv w6 T=>?_;obtain ⟨a4,R⟩:=T;rw[g7] at a4;have b:=b.ta R;have a:=a.k0 R;have j:=j.trans R;refine ⟨j,?_⟩;rcases a4 with ⟨r,d,hd,rfl,Q⟩|⟨hd,rfl⟩
    ·refine wk 7 rfl j (eX rfl rfl) (wk 8 rfl j (eX rfl rfl) ?_);refine WK.nZ 9 rfl oR oR rfl rfl rfl ao a oS rfl λr8 f d0=>?_;(try simp only[qt] at f);have b:=b.s1 d0;have Q:=Q.q9 a d0 an;have a:=f;refine WK.after 10 rfl oR oR (Ev.assign rfl) rfl ?_;refine WK.done oR (e1 _ _ _ ?_);refine e6 ?_;refine zr (k9.iX rfl (aZ.cell rfl (a.fJ rfl rfl)) (aZ.tmp rfl) ?_);rw[C,A];exact ⟨.inl ⟨r,d,by show yQ B z=_;rw[xJ U Z I H,if_neg b1,if_pos a5];exact hd,rfl,Q⟩,b⟩
    refine wk 7 rfl j (eX rfl rfl) (wk 8 rfl j (eX rfl rfl) ?_);refine WK.nZ 9 rfl oR oR rfl rfl rfl ao a oS rfl λr7 f f7=>?_;(try simp only[qt] at f);have b:=b.s1 f7;have a:=f;refine WK.after 10 rfl oR oR (Ev.assign rfl) rfl ?_;refine WK.done oR (e1 _ _ _ ?_);refine e6 ?_;refine zr (k9.iX rfl (aZ.cell rfl (a.fJ rfl rfl)) (aZ.tmp rfl) ?_);rw[C,A];exact ⟨.inr ⟨by show yQ B z=_;rw[xJ U Z I H,if_neg b1,if_pos a5];exact hd,rfl⟩,b⟩
   have a5:B.neg≠z.neg:=by simpa using g1
   refine zkk (i0 (zc λ_ h8=>Sr λ_ h7=>zm rfl (zm rfl ?_)));refine WL.call hasF174 rfl rfl (azj _ _ _ _ _ s x) λv w7 T=>?_;obtain ⟨rfl,y⟩:=T;rw[g7,g7];have b:=b.ta y;have a:=a.k0 y;have g:=g.k0 y;have h:=h.k0 y;have s:=s.q8 y;have x:=x.q8 y;refine WL.ev (Ev.geq rfl rfl) rfl ?_;refine zz (h7 ?_);refine zy rfl ?_ ?_<;>intro m1<;>try simp only[qs] at m1
   ·have p1:q<=p:=dfx.1 m1
    have o6:=uZ (Nat.sub_le p q);refine zc λ_ e5=>?_;refine CW.gJ 9 11 rfl dZ λt0 e0 j n=>?_;have b:=b.ta n;have a:=a.k0 n;have g:=g.k0 n;have s:=s.q8 n;have x:=x.q8 n;have a6:=g;refine wk 0 rfl j (eF rfl) (wk 1 rfl j (λ_ b5=>Ev.load rfl rfl ((a6.q8 b5).at_ rfl)) (wk 2 rfl j (eM rfl) (wk 3 rfl j (eM rfl) (wk 5 rfl j (eM rfl) ?_))));refine WK.k7 4 rfl oR hasF175 rfl rfl (btq _ _ _ _ _ s x oO (by rw[g7,g7];exact p1)) λv w8 T=>?_;obtain ⟨a3,y,m4⟩:=T;rw[g7,g7] at a3;have b:=b.ta y;have a:=a.k0 y;have j:=j.trans y;refine ⟨j,?_⟩;refine WK.k7 6 rfl oR hasF164 rfl rfl (a3x _ _ _ _ _ a3 oO oO) λv w9 T=>?_;obtain ⟨a4,R⟩:=T;rw[g7] at a4;have b:=b.ta R;have a:=a.k0 R;have j:=j.trans R;refine ⟨j,?_⟩;rcases a4 with ⟨r,d,hd,rfl,Q⟩|⟨hd,rfl⟩
    ·refine wk 7 rfl j (eX rfl rfl) (wk 8 rfl j (eX rfl rfl) ?_);refine WK.nZ 9 rfl oR oR rfl rfl rfl ao a oS rfl λr6 f c9=>?_;(try simp only[qt] at f);have b:=b.s1 c9;have Q:=Q.q9 a c9 an;have a:=f;refine WK.after 10 rfl oR oR (Ev.assign rfl) rfl ?_;refine WK.done oR (e0 _ _ _ ?_);refine e5 ?_;refine zr (k9.iX rfl (aZ.cell rfl (a.fJ rfl rfl)) (aZ.tmp rfl) ?_);rw[C,A];exact ⟨.inl ⟨r,d,by show yQ B z=_;rw[xJ U Z I H,if_neg b1,if_neg a5,if_neg (show ¬p<q by omega)];exact hd,rfl,Q⟩,b⟩
    refine wk 7 rfl j (eX rfl rfl) (wk 8 rfl j (eX rfl rfl) ?_);refine WK.nZ 9 rfl oR oR rfl rfl rfl ao a oS rfl λr5 f f6=>?_;(try simp only[qt] at f);have b:=b.s1 f6;have a:=f;refine WK.after 10 rfl oR oR (Ev.assign rfl) rfl ?_;refine WK.done oR (e0 _ _ _ ?_);refine e5 ?_;refine zr (k9.iX rfl (aZ.cell rfl (a.fJ rfl rfl)) (aZ.tmp rfl) ?_);rw[C,A];exact ⟨.inr ⟨by show yQ B z=_;rw[xJ U Z I H,if_neg b1,if_neg a5,if_neg (show ¬p<q by omega)];exact hd,rfl⟩,b⟩
   have l0:p<q:=Nat.lt_of_not_le λhn=>by have:=dfx.2 hn;omega
   have o6:=uZ (Nat.sub_le q p);refine zkk (h8 (zc λ_ e4=>?_));refine CW.gJ 9 11 rfl dZ λs9 d9 j n=>?_;have b:=b.ta n;have a:=a.k0 n;have h:=h.k0 n;have s:=s.q8 n;have x:=x.q8 n;have g3:=h;refine wk 0 rfl j (eF rfl) (wk 1 rfl j (λ_ b5=>Ev.load rfl rfl ((g3.q8 b5).at_ rfl)) (wk 2 rfl j (eM rfl) (wk 3 rfl j (eM rfl) (wk 5 rfl j (eM rfl) ?_))));refine WK.k7 4 rfl oR hasF175 rfl rfl (btq _ _ _ _ _ x s oO (by rw[g7,g7];omega)) λv u1 T=>?_;obtain ⟨a3,y,m4⟩:=T;rw[g7,g7] at a3;have b:=b.ta y;have a:=a.k0 y;have j:=j.trans y;refine ⟨j,?_⟩;refine WK.k7 6 rfl oR hasF164 rfl rfl (a3x _ _ _ _ _ a3 oO oO) λv u0 T=>?_;obtain ⟨a4,R⟩:=T;rw[g7] at a4;have b:=b.ta R;have a:=a.k0 R;have j:=j.trans R;refine ⟨j,?_⟩;rcases a4 with ⟨r,d,hd,rfl,Q⟩|⟨hd,rfl⟩
   ·refine wk 7 rfl j (eX rfl rfl) (wk 8 rfl j (eX rfl rfl) ?_);refine WK.nZ 9 rfl oR oR rfl rfl rfl ao a oS rfl λr4 f c8=>?_;(try simp only[qt] at f);have b:=b.s1 c8;have Q:=Q.q9 a c8 an;have a:=f;refine WK.after 10 rfl oR oR (Ev.assign rfl) rfl ?_;refine WK.done oR (d9 _ _ _ ?_);refine e4 ?_;refine zr (k9.iX rfl (aZ.cell rfl (a.fJ rfl rfl)) (aZ.tmp rfl) ?_);rw[C,A];exact ⟨.inl ⟨r,d,by show yQ B z=_;rw[xJ U Z I H,if_neg b1,if_neg a5,if_pos l0];exact hd,rfl,Q⟩,b⟩
   refine wk 7 rfl j (eX rfl rfl) (wk 8 rfl j (eX rfl rfl) ?_);refine WK.nZ 9 rfl oR oR rfl rfl rfl ao a oS rfl λr3 f f5=>?_;(try simp only[qt] at f);have b:=b.s1 f5;have a:=f;refine WK.after 10 rfl oR oR (Ev.assign rfl) rfl ?_;refine WK.done oR (d9 _ _ _ ?_);refine e4 ?_;refine zr (k9.iX rfl (aZ.cell rfl (a.fJ rfl rfl)) (aZ.tmp rfl) ?_);rw[C,A];exact ⟨.inr ⟨by show yQ B z=_;rw[xJ U Z I H,if_neg b1,if_neg a5,if_pos l0];exact hd,rfl⟩,b⟩
  refine zm rfl (zx rfl rfl (zx rfl rfl ?_));refine zAh rfl rfl b λb8 f0 h t D J b=>?_;have V:=zdd a.lt D;have a:=a.k0 t;refine zss rfl rfl ao h rfl λr0 G c7=>?_;(try simp only[qt] at G);have b:=b.s1 c7;have a:=a.kq c7;refine za rfl (zz (h4 (zc λ_ s8=>Sr λ_ h6=>zm rfl (zT rfl (zm rfl (zw rfl (zm rfl (zw rfl (zT rfl (ze rfl rfl (zz (h6 ?_))))))))))));refine CW.nJ rfl ?_;refine Sr λ_ h5=>?_;refine WL.ev (Ev.build (vs:=_) (cs:=[_,_,_]) rfl rfl) rfl ?_;refine zss rfl rfl ao a rfl λq7 f f4=>?_;(try simp only[qt] at f);have b:=b.s1 f4;have a:=f;refine za rfl (zz (h5 ?_));refine zr (k9.iX rfl (aZ.cell rfl (a.fJ rfl rfl)) (aZ.tmp rfl) ?_);rw[A,amx];exact ⟨.inr ⟨rfl,rfl⟩,b⟩
 refine zm rfl (zx rfl rfl (zx rfl rfl ?_));refine zAh rfl rfl b λb6 n3 g F a0 c3 b=>?_;have Y:=Y.q8 F;have d7:=zdd o.lt a0;have o:=o.k0 F;have d6:=zdd a.lt a0;have a:=a.k0 F;refine zss rfl rfl ao g rfl λq6 b0 X=>?_;(try simp only[qt] at b0);have b:=b.s1 X;have o:=o.kq X;have a:=a.kq X;have Y:=Y.q9 g X an;refine za rfl (zz (i1 (Sr λ_ e3=>zg o rfl ?_)));refine WL.call hasF154 rfl rfl (rQ nb vb lb eb _ Y m0 l1) λv w12 T=>?_;obtain ⟨g4,a8⟩:=T;have b:=b.ta a8;have a:=a.k0 a8;rcases g4 with ⟨r2,z,A,rfl,l⟩|⟨A,rfl⟩
 ·refine zm rfl (zx rfl rfl (zx rfl rfl ?_));refine zAh rfl rfl b λb8 f0 h t D J b=>?_;have V:=zdd a.lt D;have a:=a.k0 t;refine zss rfl rfl ao h rfl λq5 G c6=>?_;(try simp only[qt] at G);have b:=b.s1 c6;have a:=a.kq c6;refine za rfl (zz (e3 (zc λ_ s7=>Sr λ_ h3=>zm rfl (zT rfl (zm rfl (zv rfl (zv rfl (zt rfl rfl (zz (h3 ?_))))))))));refine CW.nJ rfl ?_;refine Sr λ_ h2=>?_;refine WL.ev (Ev.build (vs:=_) (cs:=[_,_,_]) rfl rfl) rfl ?_;refine zss rfl rfl ao a rfl λq4 f f3=>?_;(try simp only[qt] at f);have b:=b.s1 f3;have a:=f;refine za rfl (zz (h2 ?_));refine zr (k9.iX rfl (aZ.cell rfl (a.fJ rfl rfl)) (aZ.tmp rfl) ?_);rw[C,apj];exact ⟨.inr ⟨rfl,rfl⟩,b⟩
 refine zm rfl (zx rfl rfl (zx rfl rfl ?_));refine zAh rfl rfl b λb8 f0 h t D J b=>?_;have V:=zdd a.lt D;have a:=a.k0 t;refine zss rfl rfl ao h rfl λq3 G c5=>?_;(try simp only[qt] at G);have b:=b.s1 c5;have a:=a.kq c5;refine za rfl (zz (e3 (zc λ_ s6=>Sr λ_ h1=>zm rfl (zT rfl (zm rfl (zv rfl (zv rfl (zt rfl rfl (zz (h1 ?_))))))))));refine CW.nJ rfl ?_;refine Sr λ_ h0=>?_;refine WL.ev (Ev.build (vs:=_) (cs:=[_,_,_]) rfl rfl) rfl ?_;refine zss rfl rfl ao a rfl λq2 f f2=>?_;(try simp only[qt] at f);have b:=b.s1 f2;have a:=f;refine za rfl (zz (h0 ?_));refine zr (k9.iX rfl (aZ.cell rfl (a.fJ rfl rfl)) (aZ.tmp rfl) ?_);rw[C,apj];exact ⟨.inr ⟨rfl,rfl⟩,b⟩
theorem sZ(na nb:Bool)(va vb:Value)(la lb:List Nat)(ea eb:Int)(w:World)(ha:NU w va la)(B:NU w vb lb)(h5 : -9223372036854775808<=ea/\ea<=9223372036854775807)(f1 : -9223372036854775808<=eb/\eb<=9223372036854775807)(h4:la.length<=34359738368)(e4:lb.length<=34359738368):Ret Tryz.prog 96 [.agg [.bool na,va,.int .i64 ea].toArray,.agg [.bool nb,vb,.int .i64 eb].toArray] w λu w'=>DR w' u (bix gX (cX na (val la) ea) (cX nb (val lb) eb))/\Chg [] w w':=by
 have b:=crf w;have m0:=ha.one;have l9:=B.one;refine zE2 Tryz.func96 rfl ?_;refine Sr λ_ h1=>?_;refine zBh rfl rfl rfl b λb2 l5 H b1 l2 e9 b=>?_;have ha:=ha.q8 b1;have B:=B.q8 b1;refine zBh rfl rfl rfl b λb3 l4 i a0 f0 e8 b=>?_;have ha:=ha.q8 a0;have B:=B.q8 a0;have g2:=zdd H.lt f0;have H:=H.k0 a0;refine zAh rfl rfl b λb4 l3 a O b0 e7 b=>?_;have ha:=ha.q8 O;have B:=B.q8 O;have g1:=zdd H.lt b0;have H:=H.k0 O;have g0:=zdd i.lt b0;have i:=i.k0 O;refine za rfl (zz (h1 (Sr λ_ d7=>zg H rfl ?_)));refine WL.call hasF154 rfl rfl (rQ na va la ea _ ha h5 h4) λv w1 h'=>?_;obtain ⟨h9,a5⟩:=h';have b:=b.ta a5;have i:=i.k0 a5;have a:=a.k0 a5;have B:=B.q8 a5;rcases h9 with ⟨r1,d1,T,rfl,f⟩|⟨T,rfl⟩
 ·have M:=jZ T;have m3:=M.e;have e6:=M.len;obtain ⟨⟨a1,c1,rfl,c7,h3⟩,h8,e6⟩:=f;have f:NU _ (.slice a1 (wd d1.m).length c1) (wd d1.m):=NU.adx h3 h8 e6 rfl c7;have l8:(wd d1.m).length=0↔d1.m=0:=by rw[List.length_eq_zero_iff,rJ]
  refine zm rfl (zx rfl rfl (zx rfl rfl ?_));refine zAh rfl rfl b λb6 g3 h o C U b=>?_;have B:=B.q8 o;have f:=f.q8 o;have a4:=zdd i.lt C;have i:=i.k0 o;have a3:=zdd a.lt C;have a:=a.k0 o;refine zss rfl rfl ao h rfl λk3 Q y=>?_;(try simp only[qt] at Q);have b:=b.s1 y;have i:=i.kq y;have a:=a.kq y;have B:=B.q9 h y an;have f:=f.q9 h y an;have h:=Q;refine za rfl (zz (d7 (Sr λ_ d6=>zg i rfl ?_)));refine WL.call hasF154 rfl rfl (rQ nb vb lb eb _ B f1 e4) λv w2 h'=>?_;obtain ⟨c9,I⟩:=h';have b:=b.ta I;have a:=a.k0 I;have h:=h.k0 I;have f:=f.q8 I;rcases c9 with ⟨r2,d2,D,rfl,k⟩|⟨D,rfl⟩
  ·have J:=jZ D;have m2:=J.e;have e5:=J.len;obtain ⟨⟨a2,c2,rfl,c6,h2⟩,h7,e5⟩:=k;have k:NU _ (.slice a2 (wd d2.m).length c2) (wd d2.m):=NU.adx h2 h7 e5 rfl c6;have l7:(wd d2.m).length=0↔d2.m=0:=by rw[List.length_eq_zero_iff,rJ]
   refine zm rfl (zx rfl rfl (zx rfl rfl ?_));refine zAh rfl rfl b λb8 b7 l j n t b=>?_;have f:=f.q8 j;have k:=k.q8 j;have z:=zdd a.lt n;have a:=a.k0 j;have f9:=zdd h.lt n;have h:=h.k0 j;refine zss rfl rfl ao l rfl λk2 p x=>?_;(try simp only[qt] at p);have b:=b.s1 x;have a:=a.kq x;have h:=h.kq x;have f:=f.q9 l x an;have k:=k.q9 l x an;have l:=p;refine za rfl (zz (d6 (zc λ_ h0=>Sr λ_ g9=>zm rfl (zT rfl (zm rfl (zw rfl (zm rfl (zw rfl (zT rfl (ze rfl rfl (zz (g9 ?_))))))))))));refine CW.mQ rfl ?_;refine zkk (h0 (zc λ_ a9=>?_));refine CW.gJ 18 20 rfl dZ λl1 a7 q R=>?_;have b:=b.ta R;have a:=a.k0 R;have h:=h.k0 R;have l:=l.k0 R;have f:=f.q8 R;have k:=k.q8 R;have G:=h;have F:=l;refine wk 0 rfl q (eF rfl) (wk 1 rfl q (λ_ s=>Ev.load rfl rfl ((G.q8 s).at_ rfl)) (wk 2 rfl q (eF rfl) (wk 3 rfl q (λ_ s=>Ev.load rfl rfl ((F.q8 s).at_ rfl)) (wk 4 rfl q (λ_ _=>Ev.dnj rfl rfl) (wk 5 rfl q (eF rfl) (wk 6 rfl q (λ_ s=>Ev.load rfl rfl ((G.q8 s).at_ rfl)) (wk 7 rfl q (eF rfl) (wk 8 rfl q (λ_ s=>Ev.load rfl rfl ((F.q8 s).at_ rfl)) (wk 10 rfl q (eF rfl) (wk 11 rfl q (λ_ s=>Ev.load rfl rfl ((G.q8 s).at_ rfl)) (wk 12 rfl q (eF rfl) (wk 13 rfl q (λ_ s=>Ev.load rfl rfl ((F.q8 s).at_ rfl)) (wk 14 rfl q (λ_ _=>Ev.kQ rfl rfl oO) ?_)))))))))))));refine WK.k7 9 rfl oR hasF165 rfl rfl (awx _ _ _ _ _ f k oO) λv w3 h'=>?_;obtain ⟨f2,hC,m4⟩:=h';rw[g7,g7] at f2;have m1:(wd (d1.m*d2.m)).length<=16384:=mul_len M.len J.len;have b:=b.ta hC;have a:=a.k0 hC;have q:=q.trans hC;refine ⟨q,?_⟩;refine WK.k7 15 rfl oR hasF164 rfl rfl (a3x _ _ _ _ _ f2 oO oO) λv w4 h'=>?_;obtain ⟨f3,d0⟩:=h';rw[g7,cvq M J] at f3;have b:=b.ta d0;have a:=a.k0 d0;have q:=q.trans d0;refine ⟨q,?_⟩;rcases f3 with ⟨r,d,hd,rfl,c8⟩|⟨hd,rfl⟩
   ·refine wk 16 rfl q (eX rfl rfl) (wk 17 rfl q (eX rfl rfl) ?_);refine WK.nZ 18 rfl oR oR rfl rfl rfl ao a oS rfl λk1 g Z=>?_;(try simp only[qt] at g);have b:=b.s1 Z;have c8:=c8.q9 a Z an;have a:=g;refine WK.after 19 rfl oR oR (Ev.assign rfl) rfl ?_;refine WK.done oR (a7 _ _ _ ?_);refine a9 ?_;refine zr (k9.iX rfl (aZ.cell rfl (a.fJ rfl rfl)) (aZ.tmp rfl) ?_);rw[T,D];exact ⟨.inl ⟨r,d,by exact hd,rfl,c8⟩,b⟩
   refine wk 16 rfl q (eX rfl rfl) (wk 17 rfl q (eX rfl rfl) ?_);refine WK.nZ 18 rfl oR oR rfl rfl rfl ao a oS rfl λi9 g c5=>?_;(try simp only[qt] at g);have b:=b.s1 c5;have a:=g;refine WK.after 19 rfl oR oR (Ev.assign rfl) rfl ?_;refine WK.done oR (a7 _ _ _ ?_);refine a9 ?_;refine zr (k9.iX rfl (aZ.cell rfl (a.fJ rfl rfl)) (aZ.tmp rfl) ?_);rw[T,D];exact ⟨.inr ⟨by exact hd,rfl⟩,b⟩
  refine zm rfl (zx rfl rfl (zx rfl rfl ?_));refine zAh rfl rfl b λb8 b7 l j n t b=>?_;have z:=zdd a.lt n;have a:=a.k0 j;refine zss rfl rfl ao l rfl λi8 p Y=>?_;(try simp only[qt] at p);have b:=b.s1 Y;have a:=a.kq Y;refine za rfl (zz (d6 (zc λ_ l0=>Sr λ_ e3=>zm rfl (zT rfl (zm rfl (zw rfl (zm rfl (zw rfl (zT rfl (ze rfl rfl (zz (e3 ?_))))))))))));refine CW.nJ rfl ?_;refine Sr λ_ e2=>?_;refine WL.ev (Ev.build (vs:=_) (cs:=[_,_,_]) rfl rfl) rfl ?_;refine zss rfl rfl ao a rfl λi7 g c4=>?_;(try simp only[qt] at g);have b:=b.s1 c4;have a:=g;refine za rfl (zz (e2 ?_));refine zr (k9.iX rfl (aZ.cell rfl (a.fJ rfl rfl)) (aZ.tmp rfl) ?_);rw[D,amx];exact ⟨.inr ⟨rfl,rfl⟩,b⟩
 refine zm rfl (zx rfl rfl (zx rfl rfl ?_));refine zAh rfl rfl b λb6 g3 h o C U b=>?_;have B:=B.q8 o;have a4:=zdd i.lt C;have i:=i.k0 o;have a3:=zdd a.lt C;have a:=a.k0 o;refine zss rfl rfl ao h rfl λi6 Q A=>?_;(try simp only[qt] at Q);have b:=b.s1 A;have i:=i.kq A;have a:=a.kq A;have B:=B.q9 h A an;refine za rfl (zz (d7 (Sr λ_ a8=>zg i rfl ?_)));refine WL.call hasF154 rfl rfl (rQ nb vb lb eb _ B f1 e4) λv w5 h'=>?_;obtain ⟨c9,I⟩:=h';have b:=b.ta I;have a:=a.k0 I;rcases c9 with ⟨r2,d2,D,rfl,k⟩|⟨D,rfl⟩
 ·refine zm rfl (zx rfl rfl (zx rfl rfl ?_));refine zAh rfl rfl b λb8 b7 l j n t b=>?_;have z:=zdd a.lt n;have a:=a.k0 j;refine zss rfl rfl ao l rfl λi5 p X=>?_;(try simp only[qt] at p);have b:=b.s1 X;have a:=a.kq X;refine za rfl (zz (a8 (zc λ_ k5=>Sr λ_ e1=>zm rfl (zT rfl (zm rfl (zv rfl (zv rfl (zt rfl rfl (zz (e1 ?_))))))))));refine CW.nJ rfl ?_;refine Sr λ_ e0=>?_;refine WL.ev (Ev.build (vs:=_) (cs:=[_,_,_]) rfl rfl) rfl ?_;refine zss rfl rfl ao a rfl λi4 g c3=>?_;(try simp only[qt] at g);have b:=b.s1 c3;have a:=g;refine za rfl (zz (e0 ?_));refine zr (k9.iX rfl (aZ.cell rfl (a.fJ rfl rfl)) (aZ.tmp rfl) ?_);rw[T,apj];exact ⟨.inr ⟨rfl,rfl⟩,b⟩
 refine zm rfl (zx rfl rfl (zx rfl rfl ?_));refine zAh rfl rfl b λb8 b7 l j n t b=>?_;have z:=zdd a.lt n;have a:=a.k0 j;refine zss rfl rfl ao l rfl λi3 p V=>?_;(try simp only[qt] at p);have b:=b.s1 V;have a:=a.kq V;refine za rfl (zz (a8 (zc λ_ k4=>Sr λ_ d9=>zm rfl (zT rfl (zm rfl (zv rfl (zv rfl (zt rfl rfl (zz (d9 ?_))))))))));refine CW.nJ rfl ?_;refine Sr λ_ d8=>?_;refine WL.ev (Ev.build (vs:=_) (cs:=[_,_,_]) rfl rfl) rfl ?_;refine zss rfl rfl ao a rfl λi2 g b9=>?_;(try simp only[qt] at g);have b:=b.s1 b9;have a:=g;refine za rfl (zz (d8 ?_));refine zr (k9.iX rfl (aZ.cell rfl (a.fJ rfl rfl)) (aZ.tmp rfl) ?_);rw[T,apj];exact ⟨.inr ⟨rfl,rfl⟩,b⟩
theorem sgn_neg(a b:Nat): -(sgn a b)=sgn b a:=by unfold sgn;split<;>split<;>(try split)<;>omega
theorem sgn_pos{a b:Nat}(h:b<a):sgn a b=1:=by unfold sgn;rw[if_neg oO,if_pos h]
theorem sgn_lt{a b:Nat}(h:a<b):sgn a b = -1:=by unfold sgn;rw[if_pos h]
theorem sgn_mulr{a b:Nat}(h:a=0\/b=0)(d:Nat):sgn (a*2^d) b=sgn a b:=by
  have f:=Nat.two_pow_pos d
  rcases h with h|h
  · rw[h,Nat.zero_mul]
  · subst h
    rcases Nat.eq_zero_or_pos a with e|e
    · rw[e,Nat.zero_mul]
    · rw[sgn_pos e,sgn_pos (Nat.mul_pos e f)]
theorem bl_up_gt{m n d:Nat}(a:m≠0)(h:bl n<bl m+d):n<m*2^d:=by
  rw[<- adj a] at h
  exact Nat.lt_of_lt_of_le (cbj n) (cbx.1 h)
theorem bl_up_lt{m n d:Nat}(a:m≠0)(h:bl m+d<bl n):m*2^d<n:=by
  rw[<- adj a] at h
  exact Nat.lt_of_lt_of_le (cbj _) (cbx.1 h)
def c3j(m:Nat)(e:Int)(n:Nat)(f:Int):Int:=sgn (m*2^(e-min e f).toNat) (n*2^(f-min e f).toNat)
theorem bmj(va vb:Value)(j l:List Nat)(e f:Int)(w:World)(F:NU w va j)(D:NU w vb l)(he : -9223372036854775808<=e/\e<=9223372036854775807)(hf : -9223372036854775808<=f/\f<=9223372036854775807)(a7:j.length<=17179869184)(a6:l.length<=17179869184)(a8:f<=e):Ret Tryz.prog 225 [va,.int .i64 e,vb,.int .i64 f] w λu w'=>u = .int .i64 (sgn (val j*2^(e-f).toNat) (val l))/\Chg [] w w':=by
 obtain ⟨d,hd⟩ : ∃ d:Nat,(d:Int)=e-f:=⟨(e-f).toNat,by omega⟩;rw[show (e-f).toNat=d by omega];have b0:=F;have a9:=D;have Y:=vQ.2 (vZ F.hw);have X:=vQ.2 (vZ D.hw);have R:=aex (n:=val j);have Q:=aex (n:=val l);obtain ⟨i,hi⟩ : ∃ i,i=bl (val j):=⟨_,rfl⟩;obtain ⟨k,hk⟩ : ∃ k,k=bl (val l):=⟨_,rfl⟩;rw[<- hi] at Y R;rw[<- hk] at X Q;have a:=crf w;refine zE4 Tryz.func225 rfl ?_;refine Sr λ_ O=>za rfl (zz (O (Sr λ_ M=>zm rfl ?_)));refine WL.call hasF223 rfl rfl (bbq _ _ _ (F.q8 a) oO) λv w1 b=>?_;obtain ⟨rfl,rfl⟩:=b;rw[<- hi];refine WL.ev (Ev.eZ rfl rfl (jX oO)) rfl ?_;refine za rfl (zz (M (Sr λ_ J=>zm rfl ?_)));refine WL.call hasF223 rfl rfl (bbq _ _ _ (D.q8 a) oO) λv w2 b=>?_;obtain ⟨rfl,rfl⟩:=b;rw[<- hk];refine WL.ev (Ev.eZ rfl rfl (jX oO)) rfl ?_;refine za rfl (zz (J (zc λ_ I=>?_)));refine CW.oX 23 (decide (i=0\/k=0)) ?_ ?_
 ·refine zS λ_ m=>zm rfl (zq rfl rfl (zm rfl ?_));refine zb ?_ ?_<;>intro U<;>try simp only[qs] at U
  ·refine zv rfl (zv rfl (zt rfl rfl (zz (m ?_))));refine ⟨rfl,rfl,j0.g8 rfl ?_ ?_⟩
   ·first|(simp;omega)|(simp_all;done)|(refine decide_eq_decide.2 ?_;omega)
   exact SMg
  refine zw rfl (zm rfl (zw rfl (zq rfl rfl (ze rfl rfl (zz (m ?_))))));refine ⟨rfl,rfl,j0.g8 rfl ?_ ?_⟩
  ·first|(simp;omega)|(simp_all;done)|(refine decide_eq_decide.2 ?_;omega)
  exact SMg
 refine zy rfl ?_ ?_<;>intro h<;>try simp only[qs] at h
 ·have hz:=h
  refine Sr λ_ H=>zm rfl (zm rfl ?_);refine WL.call hasF174 rfl rfl (azj _ _ _ _ _ (F.q8 a) (D.q8 a)) λv w3 b=>?_;obtain ⟨rfl,G⟩:=b;have a:=a.ta G;refine za rfl (zz (H ?_));refine zr (zr1 rfl rfl ?_);rw[sgn_mulr oO];exact ⟨rfl,a⟩
 have hz:=h;have A:val j≠0:=by omega
 refine zkk (I (zc λ_ z=>Sr λ_ y=>zm rfl (zm rfl (zL rfl rfl (zz (y ?_))))));refine zy rfl ?_ ?_<;>intro V<;>try simp only[qs] at V
 ·exfalso;omega
 refine zkk (z (Sr λ_ x=>zm rfl ?_));refine WL.ev (Ev.conv rfl rfl) rfl ?_;rw[wX];refine zm rfl ?_;refine WL.ev (Ev.conv rfl rfl) rfl ?_;rw[wX];refine WL.ev (Ev.sub rfl rfl) rfl ?_;rw[wX,show (e%18446744073709551616-f%18446744073709551616)%18446744073709551616=((d:Nat):Int) by omega];refine za rfl (zz (x (zc λ_ t=>?_)));refine CW.oX 49 (decide (1099511627776<d\/k<i+d)) ?_ ?_
 ·refine zS λ_ g=>zm rfl (zG rfl rfl (zm rfl ?_));refine zb ?_ ?_<;>intro T<;>try simp only[qs] at T
  ·refine zv rfl (zv rfl (zv rfl (zv rfl (zv rfl (zt rfl rfl (zz (g ?_)))))));refine ⟨rfl,rfl,j0.g8 rfl ?_ ?_⟩
   ·first|(simp;omega)|(simp_all;done)|(refine decide_eq_decide.2 ?_;omega)
   exact SMg
  refine zw rfl (zm rfl (zw rfl (zm rfl (zw rfl ?_))))
  first|refine WL.ev (Ev.iJ rfl rfl oO) rfl ?_|refine WL.ev (Ev.abq rfl rfl) rfl ?_
  refine zw rfl (zm rfl (zw rfl (zG rfl rfl (ze rfl rfl (zz (g ?_))))));refine ⟨rfl,rfl,j0.g8 rfl ?_ ?_⟩
  ·first|(simp;omega)|(simp_all;done)|(refine decide_eq_decide.2 ?_;omega)
  exact SMg
 refine zy rfl ?_ ?_<;>intro C<;>try simp only[qs] at C
 ·have hz:=C
  refine Sr λ_ s=>za rfl (zz (s ?_));refine zr (zr1 rfl rfl ?_);rw[sgn_pos (bl_up_gt A oO)];exact ⟨rfl,a⟩
 refine zkk (t (zc λ_ r=>Sr λ_ q=>zm rfl (zm rfl ?_)))
 first|refine WL.ev (Ev.iJ rfl rfl oO) rfl ?_|refine WL.ev (Ev.abq rfl rfl) rfl ?_
 refine zm rfl (zL rfl rfl (zz (q ?_)));refine zy rfl ?_ ?_<;>intro B<;>try simp only[qs] at B
 ·have a5:=B
  refine Sr λ_ p=>za rfl (zz (p ?_));refine zr (zr1 rfl rfl ?_);rw[sgn_lt (bl_up_lt A oO)];exact ⟨rfl,a⟩
 refine zkk (r (Sr λ_ o=>zm rfl (zm rfl ?_)));refine WL.ev (Ev.eZ rfl rfl (tX oO)) rfl ?_;refine WL.call hasF172 rfl rfl (aaq _ _ _ (F.q8 a) d oO oO) λv w4 b=>?_;obtain ⟨Z,G,b1⟩:=b;have a:=a.ta G;refine zm rfl ?_;refine WL.call hasF174 rfl rfl (azj _ _ _ _ _ Z (D.q8 a)) λv w5 b=>?_;obtain ⟨rfl,G⟩:=b;rw[g7];have a:=a.ta G;refine za rfl (zz (o ?_));refine zr (zr1 rfl rfl ?_);exact ⟨rfl,a⟩
theorem csq(O M:Value)(h g:List Nat)(e f:Int)(w:World)(r:NU w O h)(q:NU w M g)(X : -9223372036854775808<=e/\e<=9223372036854775807)(U : -9223372036854775808<=f/\f<=9223372036854775807)(D:h.length<=17179869184)(C:g.length<=17179869184)(V:e<f):Ret Tryz.prog 225 [O,.int .i64 e,M,.int .i64 f] w λu w'=>u = .int .i64 (sgn (val h) (val g*2^(f-e).toNat))/\Chg [] w w':=by
 have Z:=r;have Y:=q;have I:=vQ.2 (vZ r.hw);have H:=vQ.2 (vZ q.hw);have B:=aex (n:=val h);have A:=aex (n:=val g);obtain ⟨i,T⟩ : ∃ i,i=bl (val h):=⟨_,rfl⟩;obtain ⟨k,R⟩ : ∃ k,k=bl (val g):=⟨_,rfl⟩;rw[<- T] at I B;rw[<- R] at H A;have d:=crf w;refine zE4 Tryz.func225 rfl ?_;refine Sr λ_ z=>za rfl (zz (z (Sr λ_ y=>zm rfl ?_)));refine WL.call hasF223 rfl rfl (bbq _ _ _ (r.q8 d) oO) λv w1 j=>?_;obtain ⟨rfl,rfl⟩:=j;rw[<- T];refine WL.ev (Ev.eZ rfl rfl (jX oO)) rfl ?_;refine za rfl (zz (y (Sr λ_ x=>zm rfl ?_)));refine WL.call hasF223 rfl rfl (bbq _ _ _ (q.q8 d) oO) λv w2 j=>?_;obtain ⟨rfl,rfl⟩:=j;rw[<- R];refine WL.ev (Ev.eZ rfl rfl (jX oO)) rfl ?_;refine za rfl (zz (x (zc λ_ t=>?_)));refine CW.oX 23 (decide (i=0\/k=0)) ?_ ?_
 ·refine zS λ_ l=>zm rfl (zq rfl rfl (zm rfl ?_));refine zb ?_ ?_<;>intro F<;>try simp only[qs] at F
  ·refine zv rfl (zv rfl (zt rfl rfl (zz (l ?_))));refine ⟨rfl,rfl,j0.g8 rfl ?_ ?_⟩
   ·first|(simp;omega)|(simp_all;done)|(refine decide_eq_decide.2 ?_;omega)
   exact SMg
  refine zw rfl (zm rfl (zw rfl (zq rfl rfl (ze rfl rfl (zz (l ?_))))));refine ⟨rfl,rfl,j0.g8 rfl ?_ ?_⟩
  ·first|(simp;omega)|(simp_all;done)|(refine decide_eq_decide.2 ?_;omega)
  exact SMg
 refine zy rfl ?_ ?_<;>intro p<;>try simp only[qs] at p
 ·have hz:=p
  refine Sr λ_ s=>zm rfl (zm rfl ?_);refine WL.call hasF174 rfl rfl (azj _ _ _ _ _ (r.q8 d) (q.q8 d)) λv w3 j=>?_;obtain ⟨rfl,J⟩:=j;have d:=d.ta J;refine za rfl (zz (s ?_));refine zr (zr1 rfl rfl ?_);rw[<- sgn_neg (val g*2^(f-e).toNat) (val h),sgn_mulr oO,sgn_neg];exact ⟨rfl,d⟩
 refine zkk (t (zc λ_ Q=>Sr λ_ o=>zm rfl (zm rfl (zL rfl rfl (zz (o ?_))))));refine zy rfl ?_ ?_<;>intro G<;>try simp only[qs] at G
 ·refine Sr λ_ m=>zm rfl (zm rfl (zm rfl (zm rfl ?_)));refine WL.call hasF225 rfl rfl (bmj _ _ _ _ f e _ (q.q8 d) (r.q8 d) U X C D oO) λv w4 j=>?_
  obtain ⟨rfl,J⟩:=j;have d:=d.ta J;refine WL.ev (Ev.bpx rfl (by have:=bjx (a:=val g*2^(f-e).toNat) (b:=val h);unfold sgn;split<;>(try split)<;>omega)) rfl ?_;rw[sgn_neg];refine za rfl (zz (m ?_));refine zr (zr1 rfl rfl ?_);exact ⟨rfl,d⟩
 exfalso;omega
theorem aax(j i:Value)(b a:List Nat)(e f:Int)(w:World)(n:NU w j b)(m:NU w i a)(l : -9223372036854775808<=e/\e<=9223372036854775807)(k : -9223372036854775808<=f/\f<=9223372036854775807)(g:b.length<=17179869184)(d:a.length<=17179869184):Ret Tryz.prog 225 [j,.int .i64 e,i,.int .i64 f] w λu w'=>u = .int .i64 (c3j (val b) e (val a) f)/\Chg [] w w':=by
  by_cases h:f<=e
  · have:=bmj j i b a e f w n m l k g d h
    unfold c3j;rw[show e-min e f=e-f by omega,show (f-min e f).toNat=0 by omega,Nat.pow_zero,Nat.mul_one];exact this
  have:=csq j i b a e f w n m l k g d oO;unfold c3j;rw[show f-min e f=f-e by omega,show (e-min e f).toNat=0 by omega,Nat.pow_zero,Nat.mul_one];exact this
theorem tz_scale{m:Nat}(h:m≠0)(k:Nat):tz (m*2^k)=tz m+k:=by
  obtain ⟨b,a⟩:=akj h
  refine d3x (m:=m/2^tz m) ?_ b
  rw[Nat.pow_add,<- Nat.mul_assoc,<- a]
theorem acq{neg:Bool}{m k:Nat}{e f:Int}(i:f=e-(k:Int)):cX neg (m*2^k) f=cX neg m e:=by
  by_cases h0:m=0
  · subst h0;rw[Nat.zero_mul,kX,kX]
  · have g:=Nat.two_pow_pos k
    have d:m*2^k≠0:=Nat.mul_ne_zero h0 oO
    have a:=tz_scale h0 k
    have j:m*2^k/2^tz (m*2^k)=m/2^tz m:=by
      rw[a,Nat.pow_add,Nat.mul_comm (2^tz m),<- Nat.div_div_eq_div_mul,Nat.mul_div_cancel _ g]
    unfold cX
    rw[if_neg d,if_neg h0,j,a,i]
    have b:(1048576-((tz m+k:Nat):Int)<e-(k:Int)\/e-(k:Int) < -1048576-((tz m+k:Nat):Int)\/8192<(wd (m/2^tz m)).length)↔(1048576-(tz m:Int)<e\/e < -1048576-(tz m:Int)\/8192<(wd (m/2^tz m)).length):=by omega
    by_cases h:1048576-(tz m:Int)<e\/e < -1048576-(tz m:Int)\/8192<(wd (m/2^tz m)).length
    · rw[if_pos (b.2 h),if_pos h]
    · rw[if_neg (λq=>h (b.1 q)),if_neg h,show e-(k:Int)+((tz m+k:Nat):Int)=e+(tz m:Int) by omega]
def InB(S:Int):Prop:=-((16384*BB:Nat):Int)<S/\S<(16384*BB:Nat)
theorem InB.lt{S:Int}(h:InB S):S.natAbs<2^4238:=by
  obtain ⟨b,a⟩:=h
  rw[<- b4x];omega
theorem alx{S:Int}(h:InB S){neg:Bool}(d:S≠0->neg=decide (S<0)):cX neg S.natAbs (-2148)=some (fQ S):=by
  obtain ⟨b,a⟩:=h
  have e:=c6q b a (decide (S<0))
  unfold fQ
  rw[e,c6q b a neg,Option.getD_some]
  by_cases h0:S=0
  · rw[if_pos h0,if_pos h0]
  · rw[if_neg h0,if_neg h0,d h0]
theorem dgx:fQ 0=Dy.zero:=rfl
theorem byx{S:Int}(h:InB S)(d:S≠0):fQ S=⟨decide (S<0),S.natAbs/2^tz S.natAbs,-2148+tz S.natAbs⟩:=by
  obtain ⟨b,a⟩:=h
  unfold fQ
  rw[c6q b a,if_neg d,Option.getD_some]
theorem a2q{S:Int}(h:InB S):(fQ S).ok:=jZ (alx h (neg:=decide (S<0)) (λ_=>rfl))
theorem bmq{S:Int}(h:InB S):(fQ S).m=0↔S=0:=by
  constructor
  · intro a
    apply Classical.byContradiction
    intro b
    rw[byx h b] at a
    have:=(akj (n:=S.natAbs) oO).1
    dsimp only at a
    rw[a] at this;simp at this
  · intro b;rw[b];rfl
theorem dfj{p c n:Nat}(h:n=p*2^c)(a:n<2^4238):(wd p).length<=8192:=by
  have b:p<=n:=by rw[h];exact Nat.le_mul_of_pos_right _ (Nat.two_pow_pos _)
  exact cdj (Nat.lt_of_le_of_lt b a) oD
theorem addD_sum{S T:Int}(o:InB S)(hT:InB T)(d:InB (S+T)):yQ (fQ S) (fQ T)=some (fQ (S+T)):=by
  by_cases h0:S=0
  · subst h0
    rw[dgx,Int.zero_add]
    unfold yQ;rw[if_pos (show Dy.zero.m=0 from rfl)]
  by_cases h1:T=0
  · subst h1
    rw[dgx,Int.add_zero]
    unfold yQ;rw[if_neg (λq=>h0 ((bmq o).1 q)),if_pos (show Dy.zero.m=0 from rfl)]
  obtain ⟨-,C⟩:=akj (n:=S.natAbs) oO
  obtain ⟨-,B⟩:=akj (n:=T.natAbs) oO
  have l:=byx o h0
  have j:=byx hT h1
  have s:(fQ S).m≠0:=λq=>h0 ((bmq o).1 q)
  have r:(fQ T).m≠0:=λq=>h1 ((bmq hT).1 q)
  have u:=o.lt
  have t:=hT.lt
  generalize tz S.natAbs=a at *
  generalize tz T.natAbs=b at *
  generalize hX:S.natAbs/2^a=X at *
  generalize hY:T.natAbs/2^b=Y at *
  obtain ⟨c,G⟩ : ∃ c,c=min a b:=⟨_,rfl⟩
  have A:min (fQ S).e (fQ T).e = -2148+(c:Int):=by rw[l,j];dsimp only;omega
  have w:((fQ S).e-(-2148+(c:Int))).toNat=a-c:=by rw[l];dsimp only;omega
  have v:((fQ T).e-(-2148+(c:Int))).toNat=b-c:=by rw[j];dsimp only;omega
  have h:S.natAbs=X*2^(a-c)*2^c:=by rw[Nat.mul_assoc,<- Nat.pow_add,show a-c+c=a by omega];exact C
  have g:T.natAbs=Y*2^(b-c)*2^c:=by rw[Nat.mul_assoc,<- Nat.pow_add,show b-c+c=b by omega];exact B
  rw[xJ s r rfl rfl,A,w,v]
  rw[show (fQ S).m=X by rw[l],show (fQ T).m=Y by rw[j],show (fQ S).neg=decide (S<0) by rw[l],show (fQ T).neg=decide (T<0) by rw[j]]
  generalize X*2^(a-c)=p at *
  generalize Y*2^(b-c)=q at *
  have F:=dfj h u
  have D:=dfj g t
  rw[if_neg oO]
  have y:=Nat.two_pow_pos c
  by_cases hs:decide (S<0)=decide (T<0)
  · rw[if_pos hs,<- acq (k:=c) (f:=-2148) oO,Nat.add_mul,<- h,<- g]
    have i:S<0↔T<0:=by simpa using hs
    have e:S.natAbs+T.natAbs=(S+T).natAbs:=by omega
    rw[e]
    exact alx d λ_=>decide_eq_decide.2 oO
  · have i : ¬(S<0↔T<0):=λq=>hs (decide_eq_decide.2 q)
    rw[if_neg hs]
    by_cases hlt:p<q
    · have x:S.natAbs<T.natAbs:=by rw[h,g];exact Nat.mul_lt_mul_of_pos_right hlt y
      rw[if_pos hlt,<- acq (k:=c) (f:=-2148) oO,Nat.sub_mul,<- h,<- g,show T.natAbs-S.natAbs=(S+T).natAbs by omega]
      exact alx d λ_=>decide_eq_decide.2 oO
    · have x:T.natAbs<=S.natAbs:=by rw[h,g];exact Nat.mul_le_mul_right _ oO
      rw[if_neg hlt,<- acq (k:=c) (f:=-2148) oO,Nat.sub_mul,<- h,<- g,show S.natAbs-T.natAbs=(S+T).natAbs by omega]
      exact alx d λz=>decide_eq_decide.2 oO
theorem b1j{x:Nat}: k8 x<=2↔(g6 x).cls<=2:=by
  unfold k8 g6
  by_cases a:x/4503599627370496%2048=2047/\x%4503599627370496≠0
  · rw[if_pos a];simp
  · rw[if_neg a]
    by_cases b:x/4503599627370496%2048=2047
    · rw[if_pos b];by_cases d:x/9223372036854775808%2=1<;>simp[d]
    · rw[if_neg b]
      by_cases d:0<x/4503599627370496%2048
      · rw[if_pos d];simp
      · rw[if_neg d]
        by_cases f:0<x%4503599627370496
        · rw[if_pos f];simp
        · rw[if_neg f];by_cases g:x/9223372036854775808%2=1<;>simp[g]
theorem dsq(x:Nat):InB (fvI x):=by
  have h:=sumI_in (l:=[x]) oS
  have:ayj [x]=fvI x:=by simp[ayj]
  rw[this] at h;exact h
theorem dgj(x:Nat):(fvI x).natAbs=fvN x:=by unfold fvI;split<;>omega
theorem cnq{x:Nat}(h : ¬((g6 x).cls=1\/(g6 x).cls=2)):fvI x=0:=by
  unfold fvI fvN;rw[if_neg h];split<;>rfl
theorem dtx{x:Nat}(o:x<18446744073709551616)(h:(g6 x).cls<=2):dtq x=some (fQ (fvI x)):=by
  have p:=uJ o
  have e:=b1j.2 h
  have l : ¬9218868437227405312<=x%9223372036854775808:=λq=>by
    rw[p] at e
    by_cases a:9218868437227405312<x%9223372036854775808
    · rw[if_pos a] at e;omega
    · rw[if_neg a] at e
      by_cases b:x/9223372036854775808=1
      · rw[if_pos ⟨by omega,b⟩] at e;omega
      · rw[if_neg (λq=>b q.2),if_pos oO] at e;omega
  unfold dtq dvj
  rw[if_neg l]
  have n:aoq (x%9223372036854775808)*2^(pZ (x%9223372036854775808)+2148).toNat=fvN x/\(fvN x≠0->decide (x/9223372036854775808=1)=(g6 x).neg):=by
    have j:x%9223372036854775808/4503599627370496=x/4503599627370496%2048:=by omega
    have i:x%9223372036854775808%4503599627370496=x%4503599627370496:=by omega
    have g : ¬x/4503599627370496%2048=2047:=by omega
    unfold aoq pZ fvN g6
    rw[j,i,if_neg (show ¬(x/4503599627370496%2048=2047/\x%4503599627370496≠0) from λq=>g q.1),if_neg g]
    have m:decide (x/9223372036854775808=1)=decide (x/9223372036854775808%2=1):=decide_eq_decide.2 oO
    by_cases d:0<x/4503599627370496%2048
    · rw[if_neg (show ¬x/4503599627370496%2048=0 by omega),if_neg (show ¬x/4503599627370496%2048=0 by omega),if_pos d,if_pos (.inr rfl)]
      exact ⟨by rw[Nat.add_comm],λ_=>m⟩
    · rw[if_pos (show x/4503599627370496%2048=0 by omega),if_pos (show x/4503599627370496%2048=0 by omega),if_neg d]
      by_cases f:0<x%4503599627370496
      · rw[if_pos f,if_pos (.inl rfl)]
        exact ⟨rfl,λ_=>m⟩
      · rw[if_neg f,if_neg oS,show x%4503599627370496=0 by omega,Nat.zero_mul]
        exact ⟨rfl,λq=>absurd rfl q⟩
  have t:=(a1j (x%9223372036854775808) oO).1
  rw[<- acq (k:=(pZ (x%9223372036854775808)+2148).toNat) (f:=-2148) oO,n.1,<- dgj]
  refine alx (dsq x) λs=>?_
  have r:fvN x≠0:=by rw[<- dgj];omega
  rw[n.2 r]
  unfold fvI
  cases hg:(g6 x).neg
  · rw[if_neg oD];exact (decide_eq_false oO).symm
  · rw[if_pos rfl];exact (decide_eq_true oO).symm
theorem b7q(x:Nat):k8 x<=5:=by unfold k8;repeat (first|omega|split)
theorem r11may_spec(b:Nat)(nn nd:Bool)(vn vd:Value)(ln R:List Nat)(en ed:Int)(w:World)(l:BK w b 161 [.bool nn,vn,.int .i64 en,.bool nd,vd,.int .i64 ed])(hn:NU w vn ln)(A:NU w vd R)(i9 : -9223372036854775808<=en/\en<=9223372036854775807)(g2 : -9223372036854775808<=ed/\ed<=9223372036854775807)(i8:ln.length<=34359738368)(f7:R.length<=34359738368):Ret Tryz.prog 236 [.slice (some ⟨b,0,none⟩) 1 1] w λu w'=>FmR w' u (cX nn (val ln) en) (cX nd (val R) ed) (sgD nd (val R))/\Chg [] w w':=by
 have a:=crf w;have h5:=l;have f5:=hn;have g3:=A;have m8:=hn.one;have m9:=A.one;refine zE1 Tryz.func236 rfl ?_;refine Sr λ_ i6=>za rfl (za rfl (zz (i6 (zc λ_ i5=>Sr λ_ i4=>za rfl (zz (i4 (CW.block ?_)))))));refine CW.loop (S:=λi:Nat=>[(0,.slice (some ⟨b,0,none⟩) 1 1),(4,.int .i64 (i:Int))]) (Inv:=KF1 (sgD nd (val R)) w) (mu:=λi=>1-i) (0) ?_ ?_ ?_
 ·exact ⟨by decide,λh=>(by cases h),a⟩
 ·exact SLp
 rintro i wr ⟨b2,C,a⟩;have l:=h5.q8 a;have hn:=f5.q8 a;have A:=g3.q8 a;refine zc λ_ i3=>Sr λ_ i2=>zm rfl (zm rfl (zn rfl (zL rfl rfl (zz (i2 ?_)))));refine zy rfl ?_ ?_<;>intro k4<;>try simp only[qs] at k4
 ·have o:i=0:=by omega
  subst o;refine zkk (i3 (zc λ_ i1=>CW.block (Sr λ_ f3=>zm rfl (zm rfl ?_))));refine WL.ev (Ev.indexAddr rfl rfl oO oO) rfl ?_;rw[show 0+((0:Nat):Int).toNat*6=0 from rfl];refine zf rfl ?_;refine WL.ev (Ev.fZ rfl rfl l rfl rfl) rfl ?_
  try simp only[oL]
  refine WL.call hasF157 rfl rfl (bgx nd vd R ed _ A oO) λv w1 h'=>?_;obtain ⟨rfl,h4⟩:=h';have a:=a.ta h4;refine zL rfl rfl (zz (f3 ?_));refine zy rfl ?_ ?_<;>intro b4<;>try simp only[qs] at b4
  ·have a9:sgD nd (val R)<0:=b4
   refine Sr λ_ f2=>za rfl (za rfl (zz (f2 ?_)));refine zr (zr2 rfl rfl rfl ?_);exact ⟨.inl ⟨a9,rfl⟩,a⟩
  have a9:0<=sgD nd (val R):=by have:=b4;omega
  refine zkk (i1 (zS λ_ c9=>zm rfl ?_));(first|refine zi rfl rfl ?_|refine zo rfl rfl ?_);refine za rfl (zz (c9 ?_));refine ⟨rfl,1,?_,?_,?_⟩
  ·exact SLp
  ·exact ⟨by decide,λ_=>a9,a⟩
  decide
 have o:i=1:=by omega
 subst o;have C:=C rfl;refine CW.exit ?_;refine i5 (Sr λ_ f1=>za rfl (zz (f1 (zc λ_ f0=>Sr λ_ e9=>za rfl (zz (e9 (CW.block ?_)))))));refine CW.loop (S:=λg:Nat×Value=>[(0,.slice (some ⟨b,0,none⟩) 1 1),(5,g.2),(6,.int .i64 (g.1:Int))]) (Inv:=KF2 (cX nn (val ln) en) (cX nd (val R) ed) w) (mu:=λg=>1-g.1) ((0,.slice none 0 0)) ?_ ?_ ?_
 ·exact ⟨by decide,λ_=>rfl,λh=>(by cases h),a⟩
 ·exact SLp
 rintro ⟨i,vo⟩ wr ⟨b2,hz,ho,a⟩;dsimp only at b2 hz ho a;dsimp only;have l:=h5.q8 a;have hn:=f5.q8 a;have A:=g3.q8 a;refine zc λ_ e8=>Sr λ_ e7=>zm rfl (zm rfl (zn rfl (zL rfl rfl (zz (e7 ?_)))));refine zy rfl ?_ ?_<;>intro k3<;>try simp only[qs] at k3
 ·have o:i=0:=by omega
  subst o;obtain rfl:=hz rfl;refine zkk (e8 (zc λ_ e6=>CW.block (Sr λ_ a5=>zm rfl (zm rfl ?_))));refine WL.ev (Ev.indexAddr rfl rfl oO oO) rfl ?_;rw[show 0+((0:Nat):Int).toNat*6=0 from rfl];refine zf rfl ?_;refine WL.ev (Ev.fZ rfl rfl l rfl rfl) rfl ?_
  try simp only[oL]
  refine WL.call hasF154 rfl rfl (rQ nn vn ln en _ hn i9 i8) λv w2 h'=>?_;obtain ⟨h3,Y⟩:=h';have a:=a.ta Y;have l:=l.q8 Y;have A:=A.q8 Y;rcases h3 with ⟨rx,O,z,rfl,d⟩|⟨z,rfl⟩
  ·refine zm rfl (zx rfl rfl (zx rfl rfl ?_));refine zAh rfl rfl a λb7 h9 k x f8 U a=>?_;have A:=A.q8 x;have d:=d.q8 x;have b1:b≠b7:=by have:=l.lt;omega
   have l:=l.q8 x;refine zss rfl rfl ao k rfl λm4 M J=>?_;(try simp only[qt] at M);have a:=a.s1 J;have l:=l.kq J;have A:=A.q9 k J an;have d:=d.q9 k J an;have k:=M;refine za rfl (zz (a5 (Sr λ_ a4=>zm rfl (zm rfl ?_))));refine WL.ev (Ev.indexAddr rfl rfl oO oO) rfl ?_;rw[show 0+((0:Nat):Int).toNat*6=0 from rfl];refine zf rfl ?_;refine WL.ev (Ev.fZ rfl rfl l rfl rfl) rfl ?_
   try simp only[oL]
   refine WL.call hasF154 rfl rfl (rQ nd vd R ed _ A g2 f7) λv w3 h'=>?_;obtain ⟨X,s⟩:=h';have a:=a.ta s;have l:=l.q8 s;have k:=k.k0 s;have d:=d.q8 s;rcases X with ⟨Q,G,q,rfl,f⟩|⟨q,rfl⟩
   ·refine zm rfl (zx rfl rfl (zx rfl rfl ?_));refine zAh rfl rfl a λb9 a8 r t H p a=>?_;have d:=d.q8 t;have f:=f.q8 t;have D:b≠b9:=by have:=l.lt;omega
    have h8:=zdd k.lt H;have k:=k.k0 t;refine zss rfl rfl ao r rfl λm3 n I=>?_;(try simp only[qt] at n);have a:=a.s1 I;have k:=k.kq I;have d:=d.q9 r I an;have f:=f.q9 r I an;have r:=n;refine za rfl (zz (a4 (zc λ_ e5=>Sr λ_ e4=>zm rfl (zT rfl (zm rfl (zw rfl (zm rfl (zw rfl (zT rfl (ze rfl rfl (zz (e4 ?_))))))))))));refine CW.mQ rfl ?_;refine zkk (e5 ?_);refine zR λ_ c8=>?_;refine zm rfl (zg k rfl (zg r rfl ?_));refine WL.ev (Ev.build (vs:=_) (cs:=[_,_,_,_,_,_]) rfl rfl) rfl ?_;refine WL.buildSlice (m:=1) (cs:=[.bool O.neg,rx,.int .i64 O.e,.bool G.neg,Q,.int .i64 G.e]) oD oD rfl oR rfl λl0 c3 a6=>?_;have F:=a6.chg;have h1:BK c3 l0 _ [.bool O.neg,rx,.int .i64 O.e,.bool G.neg,Q,.int .i64 G.e]:=a6.at_;have a:=a.trans F;have d:=d.q8 F;have f:=f.q8 F;have b0:=RC.of_BK h1;refine WL.append (news:=[.bool O.neg,rx,.int .i64 O.e,.bool G.neg,Q,.int .i64 G.e]) (xs:=[]) (m:=0) (by rfl) oD rfl rfl ⟨rfl,.inl ⟨rfl,rfl⟩⟩ rfl b0 (by intro v hv;simp only[List.mem_cons,List.not_mem_nil,or_false] at hv;rcases hv with rfl|rfl|rfl|rfl|rfl|rfl<;>first|rfl|exact NU.one oA) oD oD rfl λm5 c2 f4 B l8=>?_;have B:Chg [] c3 c2:=by simpa[Value.ownBlock] using B
    have a:=a.trans B;have d:=d.q8 B;have f:=f.q8 B;rcases bnq f4 with ⟨_,h0,_⟩|⟨b6,Z,rfl,_,_,a1⟩
    · cases h0
    have y:RC c2 ⟨b6,0,none⟩ (clx O G rx Q):=λj v hv=>by rw[axq,Nat.zero_add];exact a1 j v hv
    refine za rfl ?_;refine WL.nil (c8 _ _ _ (e6 ?_));refine zS λ_ c7=>zm rfl ?_;(first|refine zi rfl rfl ?_|refine zo rfl rfl ?_);refine za rfl (zz (c7 ?_));refine ⟨rfl,(1,.slice (some ⟨b6,0,none⟩) 1 Z),?_,?_,?_⟩
    ·exact SLp
    ·exact ⟨Nat.le_refl 1,λh=>(by cases h),λ_=>⟨O,G,b6,Z,rx,Q,z,q,rfl,y,d,f⟩,a⟩
    show 1-1<1-0;decide
   refine zm rfl (zx rfl rfl (zx rfl rfl ?_));refine zAh rfl rfl a λb9 a8 r t H p a=>?_;have D:b≠b9:=by have:=l.lt;omega
   refine zss rfl rfl ao r rfl λm2 n g9=>?_;(try simp only[qt] at n);have a:=a.s1 g9;refine za rfl (zz (a4 (zc λ_ l5=>Sr λ_ e3=>zm rfl (zT rfl (zm rfl (zw rfl (zm rfl (zw rfl (zT rfl (ze rfl rfl (zz (e3 ?_))))))))))));refine CW.nJ rfl ?_;refine Sr λ_ e2=>za rfl (za rfl (zz (e2 ?_)));refine zr (zr2 rfl rfl rfl ?_);exact ⟨.inr (.inl ⟨C,by first|exact .inl z|exact .inr q,rfl⟩),a⟩
  refine zm rfl (zx rfl rfl (zx rfl rfl ?_));refine zAh rfl rfl a λb7 h9 k x f8 U a=>?_;have A:=A.q8 x;have b1:b≠b7:=by have:=l.lt;omega
  have l:=l.q8 x;refine zss rfl rfl ao k rfl λm1 M V=>?_;(try simp only[qt] at M);have a:=a.s1 V;have l:=l.kq V;have A:=A.q9 k V an;refine za rfl (zz (a5 (Sr λ_ a3=>zm rfl (zm rfl ?_))));refine WL.ev (Ev.indexAddr rfl rfl oO oO) rfl ?_;rw[show 0+((0:Nat):Int).toNat*6=0 from rfl];refine zf rfl ?_;refine WL.ev (Ev.fZ rfl rfl l rfl rfl) rfl ?_
  try simp only[oL]
  refine WL.call hasF154 rfl rfl (rQ nd vd R ed _ A g2 f7) λv w4 h'=>?_;obtain ⟨X,s⟩:=h';have a:=a.ta s;have l:=l.q8 s;rcases X with ⟨Q,G,q,rfl,f⟩|⟨q,rfl⟩
  ·refine zm rfl (zx rfl rfl (zx rfl rfl ?_));refine zAh rfl rfl a λb9 a8 r t H p a=>?_;have D:b≠b9:=by have:=l.lt;omega
   refine zss rfl rfl ao r rfl λm0 n g5=>?_;(try simp only[qt] at n);have a:=a.s1 g5;refine za rfl (zz (a3 (zc λ_ l4=>Sr λ_ e1=>zm rfl (zT rfl (zm rfl (zv rfl (zv rfl (zt rfl rfl (zz (e1 ?_))))))))));refine CW.nJ rfl ?_;refine Sr λ_ e0=>za rfl (za rfl (zz (e0 ?_)));refine zr (zr2 rfl rfl rfl ?_);exact ⟨.inr (.inl ⟨C,by first|exact .inl z|exact .inr q,rfl⟩),a⟩
  refine zm rfl (zx rfl rfl (zx rfl rfl ?_));refine zAh rfl rfl a λb9 a8 r t H p a=>?_;have D:b≠b9:=by have:=l.lt;omega
  refine zss rfl rfl ao r rfl λl9 n g4=>?_;(try simp only[qt] at n);have a:=a.s1 g4;refine za rfl (zz (a3 (zc λ_ l3=>Sr λ_ d9=>zm rfl (zT rfl (zm rfl (zv rfl (zv rfl (zt rfl rfl (zz (d9 ?_))))))))));refine CW.nJ rfl ?_;refine Sr λ_ d8=>za rfl (za rfl (zz (d8 ?_)));refine zr (zr2 rfl rfl rfl ?_);exact ⟨.inr (.inl ⟨C,by first|exact .inl z|exact .inr q,rfl⟩),a⟩
 have o:i=1:=by omega
 subst o;obtain ⟨O,G,ad,c,rx,Q,g1,g0,rfl,y,d,f⟩:=ho rfl;refine CW.exit ?_;refine f0 (zc λ_ d7=>Sr λ_ d6=>za rfl (zz (d6 (CW.block ?_))));refine CW.loop (S:=λi:Nat=>[(5,.slice (some ⟨ad,0,none⟩) 1 c),(11,.int .i64 (i:Int))]) (Inv:=KF3 O G rx Q ad w) (mu:=λi=>1-i) (0) ?_ ?_ ?_
 ·exact ⟨by decide,λh=>(by cases h),y,d,f,a⟩
 ·exact SLp
 rintro i wr ⟨b2,i7,y,d,f,a⟩;have m7:=y.lt (by simp[clx]);refine zc λ_ d5=>Sr λ_ d4=>zm rfl (zm rfl (zn rfl (zL rfl rfl (zz (d4 ?_)))));refine zy rfl ?_ ?_<;>intro k2<;>try simp only[qs] at k2
 ·have o:i=0:=by omega
  subst o;have h2:=f;obtain ⟨⟨ay,cy,f9,k1,m6⟩,n1,n0⟩:=h2;refine zkk (d5 (zc λ_ d3=>CW.block (Sr λ_ d2=>zm rfl (zm rfl ?_))));refine WL.ev (Ev.indexAddr rfl rfl oO oO) rfl ?_;rw[show 0+((0:Nat):Int).toNat*6=0 from rfl];refine zf rfl (zf rfl ?_);refine WL.ev (Ev.load (v:=Q) rfl rfl (y 4 Q rfl)) rfl ?_;rw[f9];refine zn rfl (zq rfl rfl (zz (d2 ?_)));refine zy rfl ?_ ?_<;>intro b3<;>try simp only[qs] at b3
  ·have T:G.m=0:=rJ.1 (List.length_eq_zero_iff.1 oO);refine Sr λ_ d1=>za rfl (za rfl (zz (d1 ?_)));refine zr (zr2 rfl rfl rfl ?_);exact ⟨.inr (.inr (.inl ⟨C,O,G,g1,g0,T,rfl⟩)),a⟩
  have T:G.m≠0:=λe=>by rw[e,fX] at b3;exact b3 rfl
  refine zkk (d3 (zS λ_ c6=>zm rfl ?_));(first|refine zi rfl rfl ?_|refine zo rfl rfl ?_);refine za rfl (zz (c6 ?_));refine ⟨rfl,1,?_,?_,?_⟩
  ·exact SLp
  ·exact ⟨by decide,λ_=>T,y,d,f,a⟩
  decide
 have o:i=1:=by omega
 subst o;have T:=i7 rfl;refine CW.exit ?_;refine d7 (Sr λ_ d0=>zm rfl (za rfl (za rfl (zz (d0 ?_)))));refine zr (zr2 rfl rfl rfl ?_);exact ⟨.inr (.inr (.inr ⟨C,O,G,g1,g0,T,ad,c,rx,Q,rfl,y,d,f⟩)),a⟩
theorem a5q(I:Value)(x:List Nat)(e:Int)(Q R:Bool)(G H:Value)(s t:List Nat)(q r:Int)(w:World)(l:NU w I x)(he : -1099511627776<=e/\e<=1099511627776)(a0:x.length<=1000000)(i:NU w G s)(j:NU w H t)(a1 : -1048576<=q/\q<=1048576)(a2 : -1048576<=r/\r<=1048576)(Y:s.length<=8192)(Z:t.length<=8192):Ret Tryz.prog 257 [I,.int .i64 e,.agg [.bool Q,G,.int .i64 q,.bool R,H,.int .i64 r].toArray,.bool false] w λu w'=>u = .int .i64 (c3j (val x*val t) (e+r) (val s) q)/\Chg [] w w':=by
 have b:=crf w;have U:=i.one;have V:=j.one;have X:=l.one;refine zE4 Tryz.func257 rfl ?_;refine Sr λ_ C=>?_;refine zBh rfl rfl rfl b λb6 O k h M p b=>?_;have l:=l.q8 h;have i:=i.q8 h;have j:=j.q8 h;refine za rfl (zz (C (Sr λ_ B=>zm rfl (za rfl (zz (B (Sr λ_ A=>zm rfl (za rfl (zz (A (zc λ_ z=>Sr λ_ y=>zm rfl (zz (y ?_)))))))))))));refine CW.mQ rfl ?_;refine zkk (z (zc λ_ o=>?_));refine CW.cQ 18 rfl dZ λJ n a g=>?_;have b:=b.ta g;have k:=k.k0 g;have l:=l.q8 g;have i:=i.q8 g;have j:=j.q8 g;have d:=k;refine wh 0 rfl a (eM rfl) (wh 1 rfl a (eF rfl) (wh 2 rfl a (eF rfl) (wh 3 rfl a (λ_ f=>Ev.load rfl rfl ((d.q8 f).at_ rfl)) (wh 5 rfl a (eM rfl) (wh 6 rfl a (eF rfl) (wh 7 rfl a (eF rfl) (wh 8 rfl a (λ_ f=>Ev.load rfl rfl ((d.q8 f).at_ rfl)) (wh 9 rfl a (λ_ _=>Ev.kQ rfl rfl oO) (wh 10 rfl a (eF rfl) (wh 11 rfl a (eF rfl) (wh 12 rfl a (λ_ f=>Ev.load rfl rfl ((d.q8 f).at_ rfl)) (wh 13 rfl a (eF rfl) (wh 14 rfl a (eF rfl) (wh 15 rfl a (λ_ f=>Ev.load rfl rfl ((d.q8 f).at_ rfl)) ?_))))))))))))));refine WH.k7 4 rfl oR hasF165 rfl rfl (awx _ _ _ _ _ l j oO) λv w1 F=>?_;obtain ⟨D,m,hF⟩:=F;have T:=mul_len (bZ l.hw) (bZ j.hw);have b:=b.ta m;have i:=i.q8 m;have a:=a.trans m;refine ⟨a,?_⟩;refine WH.k7 16 rfl oR hasF225 rfl rfl (aax _ _ _ _ _ _ _ D i oO oO oO oO) λv w2 F=>?_;obtain ⟨rfl,m⟩:=F;rw[g7];have b:=b.ta m;have a:=a.trans m;refine ⟨a,?_⟩;refine wh 17 rfl a (eA rfl) ?_;refine WH.done oR (n _ _ _ ?_);refine o ?_;refine zr (zr1 rfl rfl ?_);exact ⟨rfl,b⟩
theorem nz_num(k:Nat):nz k=aoq k*2^(pZ k+1074).toNat:=by
  unfold nz aoq pZ
  by_cases h:k<4503599627370496
  · rw[if_pos h,if_pos (show k/4503599627370496=0 by omega),if_pos (show k/4503599627370496=0 by omega),show k%4503599627370496=k by omega]
    simp
  · rw[if_neg h,if_neg (show ¬k/4503599627370496=0 by omega),if_neg (show ¬k/4503599627370496=0 by omega),show (-1074+((k/4503599627370496:Nat):Int)-1+1074).toNat=k/4503599627370496-1 by omega]
theorem cuq(k:Nat):pZ k<=pZ (k+1)/\pZ (k+1)<=pZ k+1:=by
  unfold pZ
  by_cases h:k/4503599627370496=0
  · rw[if_pos h]
    by_cases h2:(k+1)/4503599627370496=0
    · rw[if_pos h2];omega
    · rw[if_neg h2];omega
  · rw[if_neg h,if_neg (show ¬(k+1)/4503599627370496=0 by omega)];omega
theorem sgn_scale(x y c:Nat):sgn (x*2^c) (y*2^c)=sgn x y:=by
  have a:=Nat.two_pow_pos c
  have d:x*2^c<y*2^c↔x<y:=Nat.mul_lt_mul_right a
  have b:y*2^c<x*2^c↔y<x:=Nat.mul_lt_mul_right a
  unfold sgn
  simp only[d,b]
theorem coj{m n a b:Nat}{e f:Int}(h:(a:Int)-b=e-f):c3j m e n f=sgn (m*2^a) (n*2^b):=by
  unfold c3j
  obtain ⟨c,g,d⟩ : ∃ c,a=(e-min e f).toNat+c/\b=(f-min e f).toNat+c:=by
    rcases Int.le_total e f with q|q
    · exact ⟨a,by omega,by omega⟩
    · exact ⟨b,by omega,by omega⟩
  rw[g,d,Nat.pow_add,Nat.pow_add,<- Nat.mul_assoc,<- Nat.mul_assoc,sgn_scale]
theorem cmp_num{x y:Nat}{ex ey:Int}{k:Nat}(d:k<18446744073709551616):c3j (aoq k*y) (pZ k+ey) x ex=sgn (2*nz k*(y*dyB (ex-ey))) (dyA x (ex-ey)):=by
  have e:=(a1j k d).1
  unfold dyA dyB
  rw[nz_num,coj (a:=(pZ k+1074).toNat+1+(-(ex-ey+1075)).toNat) (b:=(ex-ey+1075).toNat) oO]
  congr 1
  rw[Nat.pow_add,Nat.pow_succ]
  simp only[Nat.mul_comm,Nat.mul_left_comm,Nat.mul_assoc]
theorem cmp_mid{x y:Nat}{ex ey:Int}{k d:Nat}(f:k<9223372036854775808)(g:(d:Int)=pZ (k+1)-pZ k):c3j ((aoq k+aoq (k+1)*2^d)*y) (pZ k-1+ey) x ex=sgn ((nz k+nz (k+1))*(y*dyB (ex-ey))) (dyA x (ex-ey)):=by
  have h:=(a1j k oO).1
  have e:nz k+nz (k+1)=(aoq k+aoq (k+1)*2^d)*2^(pZ k+1074).toNat:=by
    rw[nz_num,nz_num,show (pZ (k+1)+1074).toNat=d+(pZ k+1074).toNat by omega,Nat.pow_add,Nat.add_mul,Nat.mul_assoc]
  unfold dyA dyB
  rw[e,coj (a:=(pZ k+1074).toNat+(-(ex-ey+1075)).toNat) (b:=(ex-ey+1075).toNat) oO]
  congr 1
  rw[Nat.pow_add]
  simp only[Nat.mul_comm,Nat.mul_left_comm,Nat.mul_assoc]
theorem pX{A B k:Nat}{neg:Bool}{mode:Int}{r:Nat}(e:k<9218868437227405312)(g:2*nz k*B<=A)(f:A<2*nz (k+1)*B\/k+1=9218868437227405312)(b:2*nz k*B≠A){on:Bool}(a:upM mode neg k A ((nz k+nz (k+1))*B)=on)(d:r=if on=true then k+1 else k):mX A B neg mode r:=
  ⟨k,e,g,f,by rw[if_neg b,a,d]⟩
theorem near_eq{A B k:Nat}{neg:Bool}{mode:Int}(b:k<9218868437227405312)(d:A<2*nz (k+1)*B\/k+1=9218868437227405312)(a:2*nz k*B=A):mX A B neg mode k:=
  ⟨k,b,Nat.le_of_eq a,d,by rw[if_pos a]⟩
theorem b4q{neg:Bool}{k A M:Nat}: upM 0 neg k A M=(decide (M<A)||(decide (M=A)&&decide (k%2=1))):=by unfold upM;rw[if_pos rfl]
theorem up_up{neg:Bool}{k A M:Nat}: upM 2 neg k A M = !neg:=by unfold upM;rw[if_neg oD,if_pos rfl]
theorem up_down{neg:Bool}{k A M:Nat}: upM 3 neg k A M=neg:=by unfold upM;rw[if_neg oD,if_neg oD,if_pos rfl]
theorem up_away{neg:Bool}{k A M:Nat}: upM 4 neg k A M=decide (M<=A):=by unfold upM;rw[if_neg oD,if_neg oD,if_neg oD,if_pos rfl]
theorem up_zero{neg:Bool}{k A M:Nat}: upM 1 neg k A M=false:=by unfold upM;rw[if_neg oD,if_neg oD,if_neg oD,if_neg oD]
structure KNb(x y:Dy)(A B:Nat)(w0:World)(b4 b5:Nat)(vn vd:Value)(g:Nat×Nat)(w:World):Prop where
  lt:g.1<g.2
  le:g.2<=9218868437227405312
  lo:2*nz g.1*B<=A
  hi:A<2*nz g.2*B\/g.2=9218868437227405312
  h4:BK w b4 219 [.int .i64 53,.int .i64 (-1074),.int .u64 9218868437227405312]
  h5:BK w b5 161 [.bool x.neg,vn,.int .i64 x.e,.bool y.neg,vd,.int .i64 y.e]
  hn:NU w vn (wd x.m)
  hd:NU w vd (wd y.m)
  ch:Chg [] w0 w
theorem bgj(k:Nat):(wd (aoq k)).length<=2:=aX.2 (by have:=b6q k;omega)
theorem r11half_spec(k:Nat)(Z nd:Bool)(T U:Value)(z A:List Nat)(x y:Int)(w:World)(hk:k<9218868437227405312)(h:NU w T z)(i:NU w U A)(J : -1048576<=x/\x<=1048576)(M : -1048576<=y/\y<=1048576)(H:z.length<=8192)(I:A.length<=8192):Ret Tryz.prog 258 [.agg [.int .i64 53,.int .i64 (-1074),.int .u64 9218868437227405312].toArray,.int .u64 (k:Int),.agg [.bool Z,T,.int .i64 x,.bool nd,U,.int .i64 y].toArray,.bool false] w λu w'=>u = .int .i64 (c3j ((aoq k+aoq (k+1)*2^(pZ (k+1)-pZ k).toNat)*val A) (pZ k-1+y) (val z) x)/\Chg [] w w':=by
 have a:=crf w;have a2:=h.one;have a3:=i.one;have a6:=cuq k;have a7:=a1j k oO;have a5:=bgj k;have a4:=bgj (k+1);obtain ⟨d,O⟩ : ∃ d:Nat,(d:Int)=pZ (k+1)-pZ k:=⟨(pZ (k+1)-pZ k).toNat,by omega⟩;rw[show (pZ (k+1)-pZ k).toNat=d by omega];refine zE4 Tryz.func258 rfl ?_;refine Sr λ_ G=>?_;refine zBh rfl rfl rfl a λb4 Y g n V p a=>?_;have h:=h.q8 n;have i:=i.q8 n;refine zBh rfl rfl rfl a λb6 X f j q o a=>?_;have h:=h.q8 j;have i:=i.q8 j;have t:=zdd g.lt q;have g:=g.k0 j;refine za rfl (zz (G (Sr λ_ F=>zg g rfl (zm rfl ?_))));refine WL.call hasF226 rfl rfl (qZ (k) _ oO) λv w1 m=>?_;obtain ⟨⟨va,rfl,l⟩,e⟩:=m;have a:=a.ta e;have g:=g.k0 e;have f:=f.k0 e;have h:=h.q8 e;have i:=i.q8 e;refine zm rfl (zx rfl rfl (zx rfl rfl (za rfl (za rfl (zz (F (Sr λ_ D=>zg g rfl (zm rfl ?_))))))))
 first|refine WL.ev (Ev.iJ (b:=1) rfl rfl oO) rfl ?_|refine WL.ev (Ev.abq (b:=1) rfl rfl) rfl ?_
 refine WL.call hasF226 rfl rfl (qZ (k+1) _ oO) λv w2 m=>?_;obtain ⟨⟨vb,rfl,R⟩,e⟩:=m;have a:=a.ta e;have f:=f.k0 e;have h:=h.q8 e;have i:=i.q8 e;have l:=l.q8 e;refine zm rfl (zx rfl rfl (zx rfl rfl (za rfl (za rfl (zz (D (Sr λ_ C=>zm rfl (zm rfl (zm rfl (zm rfl ?_))))))))));refine WL.ev (Ev.dX rfl rfl oO) rfl ?_;rw[<- O];refine WL.call hasF172 rfl rfl (aaq _ _ _ R d oO oO) λv w3 m=>?_;obtain ⟨s,e,hF⟩:=m;rw[g7] at s;have Q:(wd (aoq (k+1)*2^d)).length<=3:=aX.2 (by have h7:=b6q (k+1);have h8:2^d<=2^1:=Nat.pow_le_pow_right oD oO;have h9:=Nat.mul_le_mul (Nat.le_of_lt h7) h8;omega);have a:=a.ta e;have f:=f.k0 e;have h:=h.q8 e;have i:=i.q8 e;have l:=l.q8 e;refine WL.call hasF173 rfl rfl (b0q _ _ _ _ _ l s oO oO) λv w4 m=>?_;obtain ⟨r,e,hF⟩:=m;rw[g7,g7] at r;have a1:(wd (aoq k+aoq (k+1)*2^d)).length<=4:=aX.2 (by have h5:=b6q k;have h6:=aX.1 Q;omega);have a:=a.ta e;have f:=f.k0 e;have h:=h.q8 e;have i:=i.q8 e;refine za rfl (zz (C (Sr λ_ B=>zm rfl (zm rfl ?_))));refine WL.ev (Ev.dX rfl rfl oO) rfl ?_;refine zg f rfl (zm rfl ?_);refine WL.call hasF257 rfl rfl (a5q _ _ _ _ _ _ _ _ _ _ _ _ r oO oO h i J M H I) λv w5 m=>?_;obtain ⟨rfl,e⟩:=m;rw[g7];have a:=a.ta e;refine za rfl (zz (B ?_));refine zr (zr1 rfl rfl ?_);exact ⟨rfl,a⟩
end
end Go.Proofs.YtomlallhlakhfaaGreatDoor