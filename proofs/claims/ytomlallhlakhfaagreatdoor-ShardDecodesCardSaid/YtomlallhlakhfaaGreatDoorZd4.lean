/- Part 4 of what the proof rests on. No condition. -/
import Derived.Test.YtomlallhlakhfaaGreatDoorZd3
set_option linter.unusedVariables false
set_option linter.unusedSimpArgs false
set_option maxRecDepth 100000
set_option maxHeartbeats 4000000
namespace Go.Proofs.YtomlallhlakhfaaGreatDoor
section
open Go Sx Wd
theorem uZ{x:Nat}(j:x<18446744073709551616):k7 x=if 9218868437227405312<x%9223372036854775808 then 5 else if x%9223372036854775808=9218868437227405312/\x/9223372036854775808=1 then 4 else if x%9223372036854775808=9218868437227405312 then 3 else if x%9223372036854775808=0/\x/9223372036854775808=1 then 1 else if x%9223372036854775808=0 then 2 else 0:=by
  have i:x/4503599627370496%2048=2047↔9218868437227405312<=x%9223372036854775808:=by omega
  have h:(x/4503599627370496%2048=2047/\x%4503599627370496≠0)↔9218868437227405312<x%9223372036854775808:=by omega
  have d:x/9223372036854775808%2=1↔x/9223372036854775808=1:=by omega
  have g:(¬0<x/4503599627370496%2048/\¬0<x%4503599627370496)↔x%9223372036854775808=0:=by omega
  by_cases h1:9218868437227405312<x%9223372036854775808
  · have L:k7 x=5:=by unfold k7 j0;rw[if_pos (h.2 h1)];rfl
    rw[L,if_pos h1]
  · have b : ¬(x/4503599627370496%2048=2047/\x%4503599627370496≠0):=λq=>h1 (h.1 q)
    by_cases h2:x%9223372036854775808=9218868437227405312
    · have f:=i.2 oO
      by_cases h3:x/9223372036854775808=1
      · have L:k7 x=4:=by
          unfold k7 j0;rw[if_neg b,if_pos f];simp[d.2 h3]
        rw[L,if_neg h1,if_pos ⟨h2,h3⟩]
      · have L:k7 x=3:=by
          have a : ¬x/9223372036854775808%2=1:=λq=>h3 (d.1 q)
          unfold k7 j0;rw[if_neg b,if_pos f];simp[a]
        rw[L,if_neg h1,if_neg (λq=>h3 q.2),if_pos h2]
    · have e : ¬x/4503599627370496%2048=2047:=λq=>h2 (by have:=i.1 q;omega)
      by_cases h4:x%9223372036854775808=0
      · have a:=g.2 h4
        by_cases h3:x/9223372036854775808=1
        · have L:k7 x=1:=by
            unfold k7 j0;rw[if_neg b,if_neg e,if_neg a.1,if_neg a.2];simp[d.2 h3]
          rw[L,if_neg h1,if_neg (λq=>h2 q.1),if_neg h2,if_pos ⟨h4,h3⟩]
        · have L:k7 x=2:=by
            have c : ¬x/9223372036854775808%2=1:=λq=>h3 (d.1 q)
            unfold k7 j0;rw[if_neg b,if_neg e,if_neg a.1,if_neg a.2];simp[c]
          rw[L,if_neg h1,if_neg (λq=>h2 q.1),if_neg h2,if_neg (λq=>h3 q.2),if_pos h4]
      · have L:k7 x=0:=by
          unfold k7 j0;rw[if_neg b,if_neg e]
          by_cases c:0<x/4503599627370496%2048
          · rw[if_pos c];rfl
          · rw[if_neg c,if_pos (Classical.byContradiction λq=>h4 (g.1 ⟨c,q⟩))];rfl
        rw[L,if_neg h1,if_neg (λq=>h2 q.1),if_neg h2,if_neg (λq=>h4 q.1),if_neg h4]
theorem byx(x:Nat)(w:World)(g:x<18446744073709551616):Ret Tryz.prog 161 [.float .f64 x] w λu w'=>u = .int .i64 (k7 x:Int)/\w=w':=by
 refine zE1 Tryz.func161 rfl ?_;refine Sr λ_ A=>za rfl (zz (A (Sr λ_ z=>zm rfl ?_)));refine WL.ev (Ev.ext rfl (ext48 _ _)) rfl ?_;refine za rfl (zz (z (Sr λ_ y=>zm rfl ?_)));refine WL.ev (Ev.atx (b:=63) rfl rfl (by simp only[IntKind.bits];omega)) rfl ?_;rw[show x/2^63=x/9223372036854775808 from rfl];refine zq rfl rfl ?_;rw[show decide (((x/9223372036854775808:Nat):Int)=1)=decide (x/9223372036854775808=1) from decide_eq_decide.2 oO];refine za rfl (zz (y (Sr λ_ v=>zm rfl ?_)));refine WL.ev (Ev.dfx (b:=9223372036854775808) rfl rfl oO) rfl ?_;refine za rfl (zz (v (zc λ_ t=>CW.block (Sr λ_ p=>zm rfl (zG rfl rfl (za rfl (zz (p ?_))))))));refine zy rfl ?_ ?_<;>intro H<;>try simp only[qs] at H
 ·refine Sr λ_ o=>za rfl (zz (o ?_));refine zr (zr1 rfl rfl ?_);refine ⟨?_,rfl⟩;rw[uZ g,if_pos (show 9218868437227405312<x%9223372036854775808 by omega)];rfl
 have r : ¬9218868437227405312<x%9223372036854775808:=by omega
 refine CW.oJ 16 (decide (x%9223372036854775808=9218868437227405312/\x/9223372036854775808=1)) ?_ ?_
 ·refine zS λ_ c=>zm rfl (zq rfl rfl (zm rfl ?_));refine zb ?_ ?_<;>intro D<;>try simp only[qs] at D
  ·refine zw rfl (zm rfl (zt rfl rfl (za rfl (zz (c ?_)))));refine ⟨rfl,rfl,q9.g7 rfl ?_ ?_⟩
   ·first|(simp;omega)|(simp_all;done)|(refine decide_eq_decide.2 ?_;omega)
   exact SMg
  refine zv rfl (ze rfl rfl (za rfl (zz (c ?_))));refine ⟨rfl,rfl,q9.g7 rfl ?_ ?_⟩
  ·first|(simp;omega)|(simp_all;done)|(refine decide_eq_decide.2 ?_;omega)
  exact SMg
 refine zy rfl ?_ ?_<;>intro e<;>try simp only[qs] at e
 ·have f:=e
  refine Sr λ_ n=>za rfl (zz (n ?_));refine zr (zr1 rfl rfl ?_);refine ⟨?_,rfl⟩;rw[uZ g,if_neg r,if_pos f];rfl
 have f : ¬(x%9223372036854775808=9218868437227405312/\x/9223372036854775808=1):=e;refine Sr λ_ m=>zm rfl (zq rfl rfl (za rfl (zz (m ?_))));refine zy rfl ?_ ?_<;>intro G<;>try simp only[qs] at G
 ·have q:x%9223372036854775808=9218868437227405312:=by omega
  refine Sr λ_ l=>za rfl (zz (l ?_));refine zr (zr1 rfl rfl ?_);refine ⟨?_,rfl⟩;rw[uZ g,if_neg r,if_neg f,if_pos q];rfl
 have q : ¬x%9223372036854775808=9218868437227405312:=by omega
 refine CW.oJ 25 (decide (x%9223372036854775808=0/\x/9223372036854775808=1)) ?_ ?_
 ·refine zS λ_ a=>zm rfl (zq rfl rfl (zm rfl ?_));refine zb ?_ ?_<;>intro C<;>try simp only[qs] at C
  ·refine zw rfl (zm rfl (zt rfl rfl (za rfl (zz (a ?_)))));refine ⟨rfl,rfl,q9.g7 rfl ?_ ?_⟩
   ·first|(simp;omega)|(simp_all;done)|(refine decide_eq_decide.2 ?_;omega)
   exact SMg
  refine zv rfl (ze rfl rfl (za rfl (zz (a ?_))));refine ⟨rfl,rfl,q9.g7 rfl ?_ ?_⟩
  ·first|(simp;omega)|(simp_all;done)|(refine decide_eq_decide.2 ?_;omega)
  exact SMg
 refine zy rfl ?_ ?_<;>intro d<;>try simp only[qs] at d
 ·have s:=d
  refine Sr λ_ k=>za rfl (zz (k ?_));refine zr (zr1 rfl rfl ?_);refine ⟨?_,rfl⟩;rw[uZ g,if_neg r,if_neg f,if_neg q,if_pos s];rfl
 have s : ¬(x%9223372036854775808=0/\x/9223372036854775808=1):=d;refine Sr λ_ j=>zm rfl (zq rfl rfl (za rfl (zz (j ?_))));refine zy rfl ?_ ?_<;>intro F<;>try simp only[qs] at F
 ·have B:x%9223372036854775808=0:=by omega
  refine Sr λ_ i=>za rfl (zz (i ?_));refine zr (zr1 rfl rfl ?_);refine ⟨?_,rfl⟩;rw[uZ g,if_neg r,if_neg f,if_neg q,if_neg s,if_pos B];rfl
 have B : ¬x%9223372036854775808=0:=by omega
 refine zkk (t (Sr λ_ h=>za rfl (zz (h ?_))));refine zr (zr1 rfl rfl ?_);refine ⟨?_,rfl⟩;rw[uZ g,if_neg r,if_neg f,if_neg q,if_neg s,if_neg B];rfl
theorem agq(n:Nat)(w:World)(d:n<=1000000000000000):Ret Tryz.prog 153 [.int .i64 (n:Int)] w λu w'=>u = .bool (decide (n<=1099511627776))/\w=w':=by
 refine zE1 Tryz.func153 rfl ?_;refine Sr λ_ b=>za rfl (zz (b (Sr λ_ a=>zm rfl ?_)));refine WL.ev (Ev.geq rfl rfl) rfl ?_;refine zm rfl ?_;refine zb ?_ ?_<;>intro c<;>try simp only[qs] at c
 ·refine zw rfl (zm rfl (zw rfl (zQ rfl rfl (zt rfl rfl (za rfl (zz (a ?_)))))));refine zr (zr1 rfl rfl ?_);refine ⟨congrArg Value.bool (decide_eq_decide.2 oO),rfl⟩
 refine zv rfl (zv rfl (ze rfl rfl (za rfl (zz (a ?_)))));refine zr (zr1 rfl rfl ?_)
 exfalso;omega
theorem dhj(i j:Int)(w:World):Ret Tryz.prog 180 [.agg [.int .i64 i,.int .i64 j].toArray] w λu w'=>u = .bool (decide (xJ i j))/\Chg [] w w':=by
 have a:=crf w;refine zE1 Tryz.func180 rfl ?_;refine Sr λ_ e=>?_;refine zBh rfl rfl rfl a λn m c l k d a=>?_;refine za rfl (zz (e (Sr λ_ b=>zf rfl (zl c rfl rfl ?_))));refine WL.ev (Ev.geq rfl rfl) rfl ?_;refine zm rfl ?_;refine zb ?_ ?_<;>intro h<;>try simp only[qs] at h
 ·refine zw rfl (zf rfl (zw rfl (zl c rfl rfl (zw rfl (zQ rfl rfl (zt rfl rfl (zm rfl ?_)))))));refine zb ?_ ?_<;>intro g<;>try simp only[qs] at g
  ·refine zw rfl (zf rfl (zw rfl (zl c rfl rfl (zw rfl ?_))));refine WL.ev (Ev.geq rfl rfl) rfl ?_
   refine zt rfl rfl (zm rfl ?_);refine zb ?_ ?_<;>intro f<;>try simp only[qs] at f
   ·refine zw rfl (zf rfl (zw rfl (zl c rfl rfl (zw rfl (zQ rfl rfl (zt rfl rfl (za rfl (zz (b ?_)))))))));refine zr (zr1 rfl rfl ?_);refine ⟨congrArg Value.bool ?_,a⟩
    first|(refine decide_eq_decide.2 ?_;unfold xJ;omega)|(symm;refine decide_eq_false ?_;unfold xJ;omega)|(symm;refine decide_eq_true ?_;unfold xJ;omega)
   refine zv rfl (zv rfl (zv rfl (ze rfl rfl (za rfl (zz (b ?_))))));refine zr (zr1 rfl rfl ?_);refine ⟨congrArg Value.bool ?_,a⟩
   first|(refine decide_eq_decide.2 ?_;unfold xJ;omega)|(symm;refine decide_eq_false ?_;unfold xJ;omega)|(symm;refine decide_eq_true ?_;unfold xJ;omega)
  refine zv rfl (zv rfl (zv rfl (ze rfl rfl (zm rfl (zv rfl (zv rfl (zv rfl (ze rfl rfl (za rfl (zz (b ?_)))))))))));refine zr (zr1 rfl rfl ?_);refine ⟨congrArg Value.bool ?_,a⟩
  first|(refine decide_eq_decide.2 ?_;unfold xJ;omega)|(symm;refine decide_eq_false ?_;unfold xJ;omega)|(symm;refine decide_eq_true ?_;unfold xJ;omega)
 refine zv rfl (zv rfl (zv rfl (ze rfl rfl (zm rfl (zv rfl (zv rfl (zv rfl (ze rfl rfl (zm rfl (zv rfl (zv rfl (zv rfl (ze rfl rfl (za rfl (zz (b ?_))))))))))))))));refine zr (zr1 rfl rfl ?_);refine ⟨congrArg Value.bool ?_,a⟩
 first|(refine decide_eq_decide.2 ?_;unfold xJ;omega)|(symm;refine decide_eq_false ?_;unfold xJ;omega)|(symm;refine decide_eq_true ?_;unfold xJ;omega)
def dxj(s:SP)(pn pi:Int):Int:=if 0<s.na/\pn=2 then 60 else if 0<s.up+s.dn/\pi=2 then 61 else 0
theorem dhq(s:SP)(m n:Int)(w:World)(B:s.le 1000000000000000):Ret Tryz.prog 181 [.agg [.int .i64 (s.na:Int),.int .i64 (s.up:Int),.int .i64 (s.dn:Int),.int .i64 (s.mi:Int),.int .i64 (s.pl:Int),.int .i64 (s.al:Int)].toArray,.agg [.int .i64 m,.int .i64 n].toArray] w λu w'=>u = .int .i64 (dxj s m n)/\Chg [] w w':=by
 have R:=B;obtain ⟨Q,O,M,J,I,H⟩:=B;have a:=crf w;refine zE2 Tryz.func181 rfl ?_;refine Sr λ_ x=>?_;refine zBh rfl rfl rfl a λU G b D C i a=>?_;refine zBh rfl rfl rfl a λT F l k j h a=>?_;have p:=zdd b.lt j;have b:=b.k0 k;refine za rfl (zz (x (zc λ_ v=>?_)));refine CW.oJ 12 (decide (0<s.na/\m=2)) ?_ ?_
 ·refine zS λ_ f=>zf rfl (zl b rfl rfl (zG rfl rfl (zm rfl ?_)));refine zb ?_ ?_<;>intro A<;>try simp only[qs] at A
  ·refine zw rfl (zf rfl (zw rfl (zl l rfl rfl (zw rfl (zq rfl rfl (zt rfl rfl (zz (f ?_))))))));refine ⟨rfl,rfl,q9.g7 rfl ?_ ?_⟩
   ·first|(simp;omega)|(simp_all;done)|(refine decide_eq_decide.2 ?_;omega)
   exact SMg
  refine zv rfl (zv rfl (zv rfl (ze rfl rfl (zz (f ?_)))));refine ⟨rfl,rfl,q9.g7 rfl ?_ ?_⟩
  ·first|(simp;omega)|(simp_all;done)|(refine decide_eq_decide.2 ?_;omega)
  exact SMg
 refine zy rfl ?_ ?_<;>intro d<;>try simp only[qs] at d
 ·have o:=d
  refine Sr λ_ t=>za rfl (zz (t ?_));refine zr (zr1 rfl rfl ?_);unfold dxj;rw[if_pos o];exact ⟨rfl,a⟩
 have o : ¬(0<s.na/\m=2):=d;refine zkk (v (zc λ_ r=>?_));refine CW.oJ 23 (decide (0<s.up+s.dn/\n=2)) ?_ ?_
 ·refine zS λ_ e=>zf rfl (zl b rfl rfl (zf rfl (zl b rfl rfl ?_)));(first|refine zi rfl rfl ?_|refine zo rfl rfl ?_);refine zG rfl rfl (zm rfl ?_);refine zb ?_ ?_<;>intro z<;>try simp only[qs] at z
  ·refine zw rfl (zf rfl (zw rfl (zl l rfl rfl (zw rfl (zq rfl rfl (zt rfl rfl (zz (e ?_))))))));refine ⟨rfl,rfl,q9.g7 rfl ?_ ?_⟩
   ·first|(simp;omega)|(simp_all;done)|(refine decide_eq_decide.2 ?_;omega)
   exact SMg
  refine zv rfl (zv rfl (zv rfl (ze rfl rfl (zz (e ?_)))));refine ⟨rfl,rfl,q9.g7 rfl ?_ ?_⟩
  ·first|(simp;omega)|(simp_all;done)|(refine decide_eq_decide.2 ?_;omega)
  exact SMg
 refine zy rfl ?_ ?_<;>intro c<;>try simp only[qs] at c
 ·have y:=c
  refine Sr λ_ q=>za rfl (zz (q ?_));refine zr (zr1 rfl rfl ?_);unfold dxj;rw[if_neg o,if_pos y];exact ⟨rfl,a⟩
 have y : ¬(0<s.up+s.dn/\n=2):=c;refine zkk (r (Sr λ_ g=>za rfl (zz (g ?_))));refine zr (zr1 rfl rfl ?_);unfold dxj;rw[if_neg o,if_neg y];exact ⟨rfl,a⟩
theorem brx(s:SP)(w:World)(o:s.le 1000000000000000):Ret Tryz.prog 87 [.agg [.int .i64 (s.na:Int),.int .i64 (s.up:Int),.int .i64 (s.dn:Int),.int .i64 (s.mi:Int),.int .i64 (s.pl:Int),.int .i64 (s.al:Int)].toArray] w λu w'=>u = .bool (decide (cX s))/\Chg [] w w':=by
 have C:=o;obtain ⟨B,A,z,y,x,t⟩:=o;have b:=crf w;refine zE1 Tryz.func87 rfl ?_;refine Sr λ_ h=>?_;refine zBh rfl rfl rfl b λM r a q p g b=>?_;refine za rfl (zz (h ?_));refine CW.oJ 3 (decide ((s.na<=1099511627776/\s.up<=1099511627776)/\s.dn<=1099511627776)) ?_ ?_
 ·refine zS λ_ e=>zf rfl (zl a rfl rfl ?_);refine WL.call hasF153 rfl rfl (agq s.na _ oO) λv J c=>?_;obtain ⟨rfl,rfl⟩:=c;refine zm rfl ?_;refine zb ?_ ?_<;>intro n<;>try simp only[qs] at n
  ·refine zw rfl (zf rfl (zw rfl (zl a rfl rfl (zw rfl ?_))));refine WL.call hasF153 rfl rfl (agq s.up _ oO) λv I c=>?_
   obtain ⟨rfl,rfl⟩:=c;refine zt rfl rfl (zm rfl ?_);refine zb ?_ ?_<;>intro m<;>try simp only[qs] at m
   ·refine zw rfl (zf rfl (zw rfl (zl a rfl rfl (zw rfl ?_))));refine WL.call hasF153 rfl rfl (agq s.dn _ oO) λv H c=>?_
    obtain ⟨rfl,rfl⟩:=c;refine zt rfl rfl (za rfl (zz (e ?_)));refine ⟨rfl,rfl,q9.g7 rfl ?_ ?_⟩
    ·first|(simp;omega)|(simp_all;done)|(refine decide_eq_decide.2 ?_;omega)
    exact SMg
   refine zv rfl (zv rfl (zv rfl (ze rfl rfl (za rfl (zz (e ?_))))));refine ⟨rfl,rfl,q9.g7 rfl ?_ ?_⟩
   ·first|(simp;omega)|(simp_all;done)|(refine decide_eq_decide.2 ?_;omega)
   exact SMg
  refine zv rfl (zv rfl (zv rfl (ze rfl rfl (zm rfl (zv rfl (zv rfl (zv rfl (ze rfl rfl (za rfl (zz (e ?_)))))))))));refine ⟨rfl,rfl,q9.g7 rfl ?_ ?_⟩
  ·first|(simp;omega)|(simp_all;done)|(refine decide_eq_decide.2 ?_;omega)
  exact SMg
 refine CW.oJ 4 (decide ((s.mi<=1099511627776/\s.pl<=1099511627776)/\s.al<=1099511627776)) ?_ ?_
 ·refine zS λ_ d=>zf rfl (zl a rfl rfl ?_);refine WL.call hasF153 rfl rfl (agq s.mi _ oO) λv G c=>?_;obtain ⟨rfl,rfl⟩:=c;refine zm rfl ?_;refine zb ?_ ?_<;>intro l<;>try simp only[qs] at l
  ·refine zw rfl (zf rfl (zw rfl (zl a rfl rfl (zw rfl ?_))));refine WL.call hasF153 rfl rfl (agq s.pl _ oO) λv F c=>?_
   obtain ⟨rfl,rfl⟩:=c;refine zt rfl rfl (zm rfl ?_);refine zb ?_ ?_<;>intro k<;>try simp only[qs] at k
   ·refine zw rfl (zf rfl (zw rfl (zl a rfl rfl (zw rfl ?_))));refine WL.call hasF153 rfl rfl (agq s.al _ oO) λv D c=>?_
    obtain ⟨rfl,rfl⟩:=c;refine zt rfl rfl (za rfl (zz (d ?_)));refine ⟨rfl,rfl,q9.g7 rfl ?_ ?_⟩
    ·first|(simp;omega)|(simp_all;done)|(refine decide_eq_decide.2 ?_;omega)
    exact SMg
   refine zv rfl (zv rfl (zv rfl (ze rfl rfl (za rfl (zz (d ?_))))));refine ⟨rfl,rfl,q9.g7 rfl ?_ ?_⟩
   ·first|(simp;omega)|(simp_all;done)|(refine decide_eq_decide.2 ?_;omega)
   exact SMg
  refine zv rfl (zv rfl (zv rfl (ze rfl rfl (zm rfl (zv rfl (zv rfl (zv rfl (ze rfl rfl (za rfl (zz (d ?_)))))))))));refine ⟨rfl,rfl,q9.g7 rfl ?_ ?_⟩
  ·first|(simp;omega)|(simp_all;done)|(refine decide_eq_decide.2 ?_;omega)
  exact SMg
 refine Sr λ_ f=>zm rfl (zm rfl ?_);refine zb ?_ ?_<;>intro j<;>try simp only[qs] at j
 ·refine zw rfl (zm rfl (zt rfl rfl (zm rfl ?_)));refine zb ?_ ?_<;>intro i<;>try simp only[qs] at i
  ·refine zw rfl (zf rfl (zw rfl (zl a rfl rfl (zw rfl (zf rfl (zw rfl (zl a rfl rfl (zw rfl ?_))))))));(first|refine zi rfl rfl ?_|refine zo rfl rfl ?_);refine zw rfl (zf rfl (zw rfl (zl a rfl rfl (zw rfl ?_))));(first|refine zi rfl rfl ?_|refine zo rfl rfl ?_);refine zw rfl (zf rfl (zw rfl (zl a rfl rfl (zw rfl ?_))));(first|refine zi rfl rfl ?_|refine zo rfl rfl ?_);refine zw rfl (zf rfl (zw rfl (zl a rfl rfl (zw rfl ?_))));(first|refine zi rfl rfl ?_|refine zo rfl rfl ?_);refine zw rfl (zf rfl (zw rfl (zl a rfl rfl (zw rfl (zQ rfl rfl (zt rfl rfl (za rfl (zz (f ?_)))))))));refine zr (zr1 rfl rfl ?_);refine ⟨congrArg Value.bool ?_,b⟩
   first|(refine decide_eq_decide.2 ?_;unfold cX;omega)|(symm;refine decide_eq_false ?_;unfold cX;omega)|(symm;refine decide_eq_true ?_;unfold cX;omega)
  refine zv rfl (zv rfl (zv rfl (zv rfl (zv rfl (zv rfl (zv rfl (zv rfl (zv rfl (zv rfl (zv rfl (zv rfl (zv rfl (zv rfl (zv rfl (zv rfl (zv rfl (ze rfl rfl (za rfl (zz (f ?_))))))))))))))))))));refine zr (zr1 rfl rfl ?_);refine ⟨congrArg Value.bool ?_,b⟩
  first|(refine decide_eq_decide.2 ?_;unfold cX;omega)|(symm;refine decide_eq_false ?_;unfold cX;omega)|(symm;refine decide_eq_true ?_;unfold cX;omega)
 refine zv rfl (ze rfl rfl (zm rfl (zv rfl (zv rfl (zv rfl (zv rfl (zv rfl (zv rfl (zv rfl (zv rfl (zv rfl (zv rfl (zv rfl (zv rfl (zv rfl (zv rfl (zv rfl (zv rfl (zv rfl (ze rfl rfl (za rfl (zz (f ?_)))))))))))))))))))))));refine zr (zr1 rfl rfl ?_);refine ⟨congrArg Value.bool ?_,b⟩
 first|(refine decide_eq_decide.2 ?_;unfold cX;omega)|(symm;refine decide_eq_false ?_;unfold cX;omega)|(symm;refine decide_eq_true ?_;unfold cX;omega)
theorem bqj(w:World):Ret Tryz.prog 110 [] w λu w'=>u = .float .f64 9221120237041090560/\w=w':=by
 refine zE0 Tryz.func110 rfl ?_;refine Sr λ_ b=>za rfl (zz (b (Sr λ_ a=>?_)));refine WL.ev (Ev.ext rfl (ext82 _ _)) rfl ?_;refine za rfl (zz (a ?_));refine zr (zr1 rfl rfl ?_);exact ⟨rfl,rfl⟩
theorem dix(neg:Bool)(w:World):Ret Tryz.prog 182 [.bool neg] w λu w'=>u = .float .f64 (if neg=true then 18442240474082181120 else 9218868437227405312)/\w=w':=by
 refine zE1 Tryz.func182 rfl ?_;refine Sr λ_ j=>za rfl (zz (j (Sr λ_ i=>za rfl (zz (i (zc λ_ d=>Sr λ_ h=>zm rfl (zz (h ?_))))))));refine zy rfl ?_ ?_<;>intro c<;>try simp only[qs] at c
 ·have k:=c
  refine zR λ_ f=>?_;refine zm rfl ?_;refine WL.ev (Ev.iX (a:=9218868437227405312) (b:=9223372036854775808) rfl rfl oO) rfl ?_;refine za rfl ?_;refine WL.nil (f _ _ _ (d ?_));refine Sr λ_ g=>zm rfl ?_;refine WL.ev (Ev.ext rfl (ext82 _ _)) rfl ?_;refine za rfl (zz (g ?_));refine zr (zr1 rfl rfl ?_);rw[if_pos k];exact ⟨rfl,rfl⟩
 have k:=c;refine zkk (d (Sr λ_ e=>zm rfl ?_));refine WL.ev (Ev.ext rfl (ext82 _ _)) rfl ?_;refine za rfl (zz (e ?_));refine zr (zr1 rfl rfl ?_);rw[if_neg (by rw[k];decide)];exact ⟨rfl,rfl⟩
theorem bdj(neg:Bool)(w:World):Ret Tryz.prog 183 [.bool neg] w λu w'=>u = .float .f64 (if neg=true then 9223372036854775808 else 0)/\w=w':=by
 refine zE1 Tryz.func183 rfl ?_;refine Sr λ_ h=>za rfl (zz (h (Sr λ_ g=>za rfl (zz (g (zc λ_ b=>Sr λ_ f=>zm rfl (zz (f ?_))))))));refine zy rfl ?_ ?_<;>intro a<;>try simp only[qs] at a
 ·have k:=a
  refine zR λ_ d=>?_;refine za rfl ?_;refine WL.nil (d _ _ _ (b ?_));refine Sr λ_ e=>zm rfl ?_;refine WL.ev (Ev.ext rfl (ext82 _ _)) rfl ?_;refine za rfl (zz (e ?_));refine zr (zr1 rfl rfl ?_);rw[if_pos k];exact ⟨rfl,rfl⟩
 have k:=a;refine zkk (b (Sr λ_ c=>zm rfl ?_));refine WL.ev (Ev.ext rfl (ext82 _ _)) rfl ?_;refine za rfl (zz (c ?_));refine zr (zr1 rfl rfl ?_);rw[if_neg (by rw[k];decide)];exact ⟨rfl,rfl⟩
theorem bxj(s:SP)(e f:Int)(w:World)(hs:s.le 1000000000000000):Ret Tryz.prog 104 [.agg [.int .i64 (s.na:Int),.int .i64 (s.up:Int),.int .i64 (s.dn:Int),.int .i64 (s.mi:Int),.int .i64 (s.pl:Int),.int .i64 (s.al:Int)].toArray,.agg [.int .i64 e,.int .i64 f].toArray] w λu w'=>u = .tuple [.float .f64 ((lQ s e f).getD 0),.bool (lQ s e f).isSome].toArray/\Chg [] w w':=by
 have Y:=hs;obtain ⟨b7,b6,b5,b4,b1,b0⟩:=hs;have a:=crf w;refine zE2 Tryz.func104 rfl ?_;refine Sr λ_ V=>?_;refine zBh rfl rfl rfl a λb2 a9 b a7 a6 H a=>?_;refine zBh rfl rfl rfl a λb3 a8 d J I G a=>?_;have O:=zdd b.lt I;have b:=b.k0 J;refine za rfl (za rfl (zz (V (Sr λ_ U=>zg b rfl ?_))));refine WL.call hasF87 rfl rfl (brx s _ Y) λv w1 g=>?_;obtain ⟨rfl,n⟩:=g;have a:=a.ta n;have b:=b.k0 n;have d:=d.k0 n;refine za rfl (zz (U (Sr λ_ T=>zg d rfl ?_)));refine WL.call hasF180 rfl rfl (dhj e f _) λv w2 g=>?_;obtain ⟨rfl,n⟩:=g;have a:=a.ta n;have b:=b.k0 n;have d:=d.k0 n;refine za rfl (zz (T (zc λ_ R=>CW.block ?_)));refine CW.oJ 12 (decide (¬cX s\/¬xJ e f)) ?_ ?_
 ·refine zS λ_ r=>zm rfl (zT rfl (zm rfl ?_));refine zb ?_ ?_<;>intro a1<;>try simp only[qs] at a1
  ·refine zv rfl (zv rfl (zt rfl rfl (za rfl (zz (r ?_)))));refine ⟨rfl,rfl,q9.g7 rfl ?_ ?_⟩
   ·first|(simp_all;done)|(by_cases q1:cX s<;>by_cases q2:xJ e f<;>simp_all)
   exact SMg
  refine zw rfl (zm rfl (zw rfl (zT rfl (ze rfl rfl (za rfl (zz (r ?_)))))));refine ⟨rfl,rfl,q9.g7 rfl ?_ ?_⟩
  ·first|(simp_all;done)|(by_cases q1:cX s<;>by_cases q2:xJ e f<;>simp_all)
  exact SMg
 refine zy rfl ?_ ?_<;>intro m<;>try simp only[qs] at m
 ·have c : ¬cX s\/¬xJ e f:=by simpa using m
  refine Sr λ_ Q=>za rfl (za rfl (zz (Q ?_)));refine zr (zr2 rfl rfl rfl ?_);refine ⟨?_,a⟩;unfold lQ;rw[if_pos c];rfl
 have c : ¬(¬cX s\/¬xJ e f):=m;refine CW.oJ 19 (decide (0<s.na/\e=0)) ?_ ?_
 ·refine zS λ_ i=>zf rfl (zl b rfl rfl (zG rfl rfl (zm rfl ?_)));refine zb ?_ ?_<;>intro a0<;>try simp only[qs] at a0
  ·refine zw rfl (zf rfl (zw rfl (zl d rfl rfl (zw rfl (zq rfl rfl (zt rfl rfl (za rfl (zz (i ?_)))))))));refine ⟨rfl,rfl,q9.g7 rfl ?_ ?_⟩
   ·first|(simp;omega)|(simp_all;done)|(refine decide_eq_decide.2 ?_;omega)
   exact SMg
  refine zv rfl (zv rfl (zv rfl (ze rfl rfl (za rfl (zz (i ?_))))));refine ⟨rfl,rfl,q9.g7 rfl ?_ ?_⟩
  ·first|(simp;omega)|(simp_all;done)|(refine decide_eq_decide.2 ?_;omega)
  exact SMg
 refine zy rfl ?_ ?_<;>intro l<;>try simp only[qs] at l
 ·have p:0<s.na/\e=0:=l
  refine Sr λ_ F=>?_;refine WL.call hasF110 rfl rfl (bqj _) λv w3 g=>?_;obtain ⟨rfl,rfl⟩:=g;refine za rfl (za rfl (zz (F ?_)));refine zr (zr2 rfl rfl rfl ?_);refine ⟨?_,a⟩;unfold lQ;rw[if_neg c,if_pos (.inl p)];rfl
 have p : ¬(0<s.na/\e=0):=l;refine Sr λ_ D=>zf rfl (zl d rfl rfl (zN rfl rfl (za rfl (zz (D ?_)))));refine zy rfl ?_ ?_<;>intro a4<;>try simp only[qs] at a4
 ·have j : ¬f=0:=by omega
  refine Sr λ_ C=>za rfl (za rfl (zz (C ?_)));refine zr (zr2 rfl rfl rfl ?_);refine ⟨?_,a⟩;unfold lQ;rw[if_neg c,if_neg (λq=>q.elim (λq=>p q) (λq=>j q.2.2)),if_neg (λq=>j q.2),if_neg (λq=>j q.2)];rfl
 have j:f=0:=by omega
 refine CW.oJ 33 (decide (0<s.up/\0<s.dn)) ?_ ?_
 ·refine zS λ_ h=>zf rfl (zl b rfl rfl (zG rfl rfl (zm rfl ?_)));refine zb ?_ ?_<;>intro Z<;>try simp only[qs] at Z
  ·refine zw rfl (zf rfl (zw rfl (zl b rfl rfl (zw rfl (zG rfl rfl (zt rfl rfl (za rfl (zz (h ?_)))))))));refine ⟨rfl,rfl,q9.g7 rfl ?_ ?_⟩
   ·first|(simp;omega)|(simp_all;done)|(refine decide_eq_decide.2 ?_;omega)
   exact SMg
  refine zv rfl (zv rfl (zv rfl (ze rfl rfl (za rfl (zz (h ?_))))));refine ⟨rfl,rfl,q9.g7 rfl ?_ ?_⟩
  ·first|(simp;omega)|(simp_all;done)|(refine decide_eq_decide.2 ?_;omega)
  exact SMg
 refine zy rfl ?_ ?_<;>intro k<;>try simp only[qs] at k
 ·have o:0<s.up/\0<s.dn:=k
  refine Sr λ_ B=>?_;refine WL.call hasF110 rfl rfl (bqj _) λv w4 g=>?_;obtain ⟨rfl,rfl⟩:=g;refine za rfl (za rfl (zz (B ?_)));refine zr (zr2 rfl rfl rfl ?_);refine ⟨?_,a⟩;unfold lQ;rw[if_neg c,if_pos (.inr ⟨o.1,o.2,j⟩)];rfl
 have o : ¬(0<s.up/\0<s.dn):=k;refine Sr λ_ A=>zf rfl (zl b rfl rfl (zG rfl rfl (za rfl (zz (A ?_)))));refine zy rfl ?_ ?_<;>intro a3<;>try simp only[qs] at a3
 ·have M:0<s.up:=by omega
  refine Sr λ_ z=>?_;refine WL.call hasF182 rfl rfl (dix _ _) λv w5 g=>?_;obtain ⟨rfl,rfl⟩:=g;rw[if_neg (show ¬false=true by decide)];refine za rfl (za rfl (zz (z ?_)));refine zr (zr2 rfl rfl rfl ?_);refine ⟨?_,a⟩;unfold lQ;rw[if_neg c,if_neg (λq=>q.elim (λq=>p q) (λq=>o ⟨q.1,q.2.1⟩)),if_pos ⟨M,j⟩];rfl
 have M : ¬0<s.up:=by omega
 refine Sr λ_ y=>zf rfl (zl b rfl rfl (zG rfl rfl (za rfl (zz (y ?_)))));refine zy rfl ?_ ?_<;>intro a2<;>try simp only[qs] at a2
 ·have X:0<s.dn:=by omega
  refine Sr λ_ x=>?_;refine WL.call hasF182 rfl rfl (dix _ _) λv w6 g=>?_;obtain ⟨rfl,rfl⟩:=g;rw[if_pos (show true=true from rfl)];refine za rfl (za rfl (zz (x ?_)));refine zr (zr2 rfl rfl rfl ?_);refine ⟨?_,a⟩;unfold lQ;rw[if_neg c,if_neg (λq=>q.elim (λq=>p q) (λq=>o ⟨q.1,q.2.1⟩)),if_neg (λq=>M q.1),if_pos ⟨X,j⟩];rfl
 have X : ¬0<s.dn:=by omega
 refine zkk (R (Sr λ_ t=>za rfl (za rfl (zz (t ?_)))));refine zr (zr2 rfl rfl rfl ?_);refine ⟨?_,a⟩;unfold lQ;rw[if_neg c,if_neg (λq=>q.elim (λq=>p q) (λq=>o ⟨q.1,q.2.1⟩)),if_neg (λq=>M q.1),if_neg (λq=>X q.1)];rfl
theorem b9q(s:SP)(mode:Int)(w:World)(C:s.le 1000000000000000):Ret Tryz.prog 105 [.agg [.int .i64 (s.na:Int),.int .i64 (s.up:Int),.int .i64 (s.dn:Int),.int .i64 (s.mi:Int),.int .i64 (s.pl:Int),.int .i64 (s.al:Int)].toArray,.int .i64 mode] w λu w'=>u = .float .f64 (acj s mode)/\Chg [] w w':=by
 have y:=C;obtain ⟨R,Q,O,M,J,I⟩:=C;have b:=crf w;refine zE2 Tryz.func105 rfl ?_;refine Sr λ_ r=>?_;refine zBh rfl rfl rfl b λb2 H a F D l b=>?_;refine za rfl (zz (r (Sr λ_ p=>zg a rfl ?_)));refine WL.call hasF87 rfl rfl (brx s _ y) λv Y c=>?_;obtain ⟨rfl,G⟩:=c;have b:=b.ta G;have a:=a.k0 G;refine za rfl (zz (p (Sr λ_ o=>zf rfl (zl a rfl rfl (zf rfl (zl a rfl rfl ?_))))));refine WL.ev (Ev.dX rfl rfl oO) rfl ?_;refine zf rfl (zl a rfl rfl ?_);refine WL.ev (Ev.dX rfl rfl oO) rfl ?_;refine zf rfl (zl a rfl rfl ?_);refine WL.ev (Ev.dX rfl rfl oO) rfl ?_;refine za rfl (zz (o (zc λ_ n=>CW.block ?_)));refine CW.oJ 20 (decide (¬cX s\/s.al=s.na+s.up+s.dn)) ?_ ?_
 ·refine zS λ_ f=>zm rfl (zT rfl (zm rfl ?_));refine zb ?_ ?_<;>intro z<;>try simp only[qs] at z
  ·refine zv rfl (zv rfl (zt rfl rfl (za rfl (zz (f ?_)))));refine ⟨rfl,rfl,q9.g7 rfl ?_ ?_⟩
   ·first|(simp_all;done)|(by_cases q1:cX s<;>simp_all<;>omega)
   exact SMg
  refine zw rfl (zm rfl (zw rfl (zq rfl rfl (ze rfl rfl (za rfl (zz (f ?_)))))));refine ⟨rfl,rfl,q9.g7 rfl ?_ ?_⟩
  ·first|(simp_all;done)|(by_cases q1:cX s<;>simp_all<;>omega)
  exact SMg
 refine zy rfl ?_ ?_<;>intro e<;>try simp only[qs] at e
 ·have d : ¬cX s\/s.al=s.na+s.up+s.dn:=by simpa using e
  refine Sr λ_ m=>?_;refine WL.call hasF183 rfl rfl (bdj _ _) λv X c=>?_;obtain ⟨rfl,rfl⟩:=c;rw[if_neg (show ¬false=true by decide)];refine za rfl (zz (m ?_));refine zr (zr1 rfl rfl ?_);refine ⟨?_,b⟩;unfold acj;rw[if_neg (λq=>by rcases d with d|d;exact d q.1;have:=q.2.1;omega)]
 have d : ¬(¬cX s\/s.al=s.na+s.up+s.dn):=e;have x:cX s:=Classical.byContradiction λq=>d (.inl q);have t:=x;unfold cX at t;have Z:s.al≠s.na+s.up+s.dn:=λq=>d (.inr q);refine Sr λ_ k=>zf rfl (zl a rfl rfl (zm rfl (zq rfl rfl (za rfl (zz (k ?_))))));refine zy rfl ?_ ?_<;>intro B<;>try simp only[qs] at B
 ·refine Sr λ_ j=>?_
  refine WL.call hasF183 rfl rfl (bdj _ _) λv V c=>?_;obtain ⟨rfl,rfl⟩:=c;rw[if_pos (show true=true from rfl)];refine za rfl (zz (j ?_));refine zr (zr1 rfl rfl ?_);refine ⟨?_,b⟩;unfold acj;rw[if_pos ⟨x,by omega,.inl oO⟩]
 refine Sr λ_ i=>zf rfl (zl a rfl rfl (zm rfl (zq rfl rfl (za rfl (zz (i ?_))))));refine zy rfl ?_ ?_<;>intro A<;>try simp only[qs] at A
 ·refine Sr λ_ h=>?_
  refine WL.call hasF183 rfl rfl (bdj _ _) λv U c=>?_;obtain ⟨rfl,rfl⟩:=c;rw[if_neg (show ¬false=true by decide)];refine za rfl (zz (h ?_));refine zr (zr1 rfl rfl ?_);refine ⟨?_,b⟩;unfold acj;rw[if_neg (λq=>by have:=q.2.2;omega)]
 refine zkk (n (Sr λ_ g=>zm rfl (zq rfl rfl ?_)));refine WL.call hasF183 rfl rfl (bdj _ _) λv T c=>?_;obtain ⟨rfl,rfl⟩:=c;refine za rfl (zz (g ?_));refine zr (zr1 rfl rfl ?_);refine ⟨?_,b⟩;unfold acj
 by_cases q3:mode=3
 · rw[if_pos (decide_eq_true q3),if_pos ⟨x,by omega,.inr ⟨by omega,q3⟩⟩]
 rw[if_neg (show ¬decide (mode=3)=true by simpa using q3),if_neg (λq=>by have:=q.2.2;omega)]
end
namespace Sx
open Go
def ahj(P:Program)(ops:Array Oper)(K:KK)(S:World->Prop)(fuel:Nat)(listed:Array Bool)(n:Nat)(D:List Deferred)(s:Sl)(w:World)(i:Nat):Prop:=
  ∀ a,Fr n D s a->wpOp P ops (post n K) i (λa' w'=>S w'/\wpAnyH P .any ops (post n K) S fuel (listed.setIfInBounds i true) a' w') a w
section
variable {P:Program} {A:AQ} {n:Nat} {D:List Deferred} {s:Sl} {w:World} {ops:Array Oper} {K:KK} {S:World->Prop} {fuel:Nat} {listed:Array Bool}
variable {op:Op} {ty:TypeId} {pos:String} {af:Array Edge} {d:Nat} {v:Value}
theorem WH.c2j(i j:Nat)(b:Region.ready .any ops listed=[i,j])(d:ahj P ops K S fuel listed n D s w i)(c:ahj P ops K S fuel listed n D s w j):WH P ops K S (fuel+1) listed n D s w:=λa ha=>
  wpAnyH_all b oS λk hk=>by
    rcases (by simpa using hk:k=i\/k=j) with rfl|rfl
    · exact d a ha
    · exact c a ha
theorem ahj.call(i:Nat){f:FuncId}{xs:List Operand}{at_:Array TypeId}{vs:List Value}{R:Value->World->Prop}(c:ops[i]?=some ⟨some d,.call ⟨.value (.func f),xs.toArray,at_⟩,ty,pos,af,none⟩)(hF:k9 P f)(b:baq s xs=some vs)(g:Nat.blt d n=true)(h:Ret P f vs w R)
  (k : ∀ v w',R v w'->S w'/\WH P ops K S fuel (listed.setIfInBounds i true) n D ((d,v)::s) w'):ahj P ops K S fuel listed n D s w i:=λa ha=>by
 unfold wpOp;simp only[c];rw[if_pos (by simp[Region.wanted])];refine .inl ?_;unfold Oper.wp;rw[a6j hF rfl b λx u b=>ha.eval b];exact Calls.mono h λe w' ⟨v,he,hR⟩=>by subst he;exact ⟨(k v w' hR).1,(k v w' hR).2 _ (ha.put g v)⟩
theorem ahj.one(i:Nat){w':World}(b:ops[i]?=some ⟨some d,op,ty,pos,af,none⟩)(c:Ev P s op ty w v w')(f:S w')(e:Nat.blt d n=true)
    (k:WH P ops K S fuel (listed.setIfInBounds i true) n D ((d,v)::s) w'):ahj P ops K S fuel listed n D s w i:=λa ha=>by
  unfold wpOp
  simp only[b]
  rw[if_pos (by simp[Region.wanted])]
  refine .inl ?_
  unfold Oper.wp
  rw[c a.eval (some d) pos af none λx u hx=>ha.eval hx]
  exact ⟨f,k _ (ha.put e v)⟩
theorem ahj.buildSlice(i:Nat){c:World}{t e:TypeId}{y:TypeDesc}{l g a A:Nat}{z ze:Value}{h:List (Nat×Operand)}{vs:List (Nat×Value)}{cs:List Value}{m:Nat}[hT:aZ P t (.slice e) l g z][hE:aZ P e y a A ze]
    (r:ops[i]?=some ⟨some d,.buildSlice t m h.toArray,ty,pos,af,none⟩) (j:Chg [] c w)
    (q:m*a<=2^24) (p:0<m*a) (o:bnx s h=some vs) (u:Instr.fill (λi=>some (i*a,a)) ((Array.range (m*a)).map (ze.cells[· % ze.cells.size]!)) vs=some cs.toArray) (x:Nat.blt d n=true)
    (k : ∀ b w',New w b (.cells cs.toArray e) w'->Chg [] c w'->WH P ops K (Chg [] c) fuel (listed.setIfInBounds i true) n D ((d,.slice (some ⟨b,0,none⟩) m m)::s) w'):ahj P ops K (Chg [] c) fuel listed n D s w i:=by
  obtain ⟨b,w',v,f⟩:=aox (P:=P) (ty:=ty) (w:=w) (t:=t) (hT:=hT) (hE:=hE) q p o u
  exact ahj.one i r v (j.trans f.chg) x (k b w' f (j.trans f.chg))
theorem WH.bgq(i:Nat){c:World}{t e:TypeId}{A:TypeDesc}{l g a B:Nat}{z ze:Value}{h:List (Nat×Operand)}{vs:List (Nat×Value)}{cs:List Value}{m:Nat}[hT:aZ P t (.slice e) l g z][hE:aZ P e A a B ze]
    (u:ops[i]?=some ⟨some d,.buildSlice t m h.toArray,ty,pos,af,none⟩) (p:Region.ready .any ops listed=[i]) (j:Chg [] c w)
    (r:m*a<=2^24) (q:0<m*a) (o:bnx s h=some vs) (v:Instr.fill (λi=>some (i*a,a)) ((Array.range (m*a)).map (ze.cells[· % ze.cells.size]!)) vs=some cs.toArray) (y:Nat.blt d n=true)
    (k : ∀ b w',New w b (.cells cs.toArray e) w'->Chg [] c w'->WH P ops K (Chg [] c) fuel (listed.setIfInBounds i true) n D ((d,.slice (some ⟨b,0,none⟩) m m)::s) w'):WH P ops K (Chg [] c) (fuel+1) listed n D s w:=by
  obtain ⟨b,w',x,f⟩:=aox (P:=P) (ty:=ty) (w:=w) (t:=t) (hT:=hT) (hE:=hE) r q o v
  exact WH.one i u p x (j.trans f.chg) y (k b w' f (j.trans f.chg))
theorem ahj.vZ(i:Nat){c:World}{t:TypeId}{p:TypeDesc}{h e:Nat}{z:Value}{l:List Value}[hT:aZ P t p h e z](m:ops[i]?=some ⟨some d,.alloc t,ty,pos,af,none⟩)(f:Chg [] c w)(j:z.cells=l.toArray)(o:Nat.blt d n=true)
    (k : ∀ b w',BK w' b t l->Chg [] w w'->w.heap.size<=b->Chg [] c w'->WH P ops K (Chg [] c) fuel (listed.setIfInBounds i true) n D ((d,.pointer (some ⟨b,0,none⟩))::s) w'):ahj P ops K (Chg [] c) fuel listed n D s w i:=by
  have a:=asq w (.cells l.toArray t)
  refine ahj.one i (v:=.pointer (some ⟨w.heap.size,0,none⟩)) (w':=w.alloc (.cells l.toArray t)) m (λρ r pos af g q=>?_) (f.trans a.chg) o (k _ _ a.at_ a.chg a.ge (f.trans a.chg))
  simp[execOp,Instr.alloc,hT.zero,newVar,newRow,j]
theorem WH.vZ(i:Nat){c:World}{t:TypeId}{q:TypeDesc}{f e:Nat}{z:Value}{l:List Value}[hT:aZ P t q f e z](m:ops[i]?=some ⟨some d,.alloc t,ty,pos,af,none⟩)(g:Region.ready .any ops listed=[i])(p:Chg [] c w)(h:z.cells=l.toArray)(o:Nat.blt d n=true)
    (k : ∀ b w',BK w' b t l->Chg [] w w'->w.heap.size<=b->Chg [] c w'->WH P ops K (Chg [] c) fuel (listed.setIfInBounds i true) n D ((d,.pointer (some ⟨b,0,none⟩))::s) w'):WH P ops K (Chg [] c) (fuel+1) listed n D s w:=λa ha=>
  wpAnyH_all g oS λj hj=>by
    obtain rfl:j=i:=by simpa using hj
    exact ahj.vZ j m p h o k a ha
theorem WH.sQ(i:Nat){a:World}{t:TypeId}{G:TypeDesc}{h g:Nat}{m:Value}{b o:Nat}{l j vs:List Value}{T:TypeId}{x y:Operand}[hT:aZ P t G h g m](z:ops[i]?=some ⟨none,.store t x y,ty,pos,af,none⟩)(r:Region.ready .any ops listed=[i])(C:Chg [] a w)(A:a.heap.size<=b)
    (p:g8 s x=some (.pointer (some ⟨b,o,none⟩))) (d:g8 s y=some (.agg vs.toArray)) (q:vs.length=h) (F : ∀ v∈vs,v.oneCell'=true)
    (B:BK w b T l) (u:o+vs.length<=l.length) (f:splice l o vs=j) (k : ∀ w',BK w' b T j->Chg [b] w w'->Chg [] a w'->WH P ops K (Chg [] a) fuel (listed.setIfInBounds i true) n D s w'):WH P ops K (Chg [] a) (fuel+1) listed n D s w:=by
  subst f
  obtain ⟨w',f,e⟩:=a5x (P:=P) (ty:=ty) (t:=t) (hT:=hT) p d q F B u
  have c:Chg [] a w':=C.step e.chg λy d=>.inr (by simp only[List.mem_singleton] at d;omega)
  exact WH.oneS i z r f c (k w' e.at_ e.chg c)
end
end Sx
section
open Go Sx Wd
theorem c3j{l:List Nat}(h:W l):wd (val l)=l.take (wd (val l)).length:=by
  have a:=bX h
  refine d8x (W_wd _) (h.take _) (by rw[List.length_take];omega) ?_
  rw[g6,cij h _ a,Nat.mod_eq_of_lt (aQ.1 (Nat.le_refl _))]
theorem c9q{l:List Nat}{k:Nat}(h:k<=l.length):(l.take k).length=k:=by rw[List.length_take];omega
structure b1j(la lb:List Nat)(i:Nat)(L:List Nat)(c:Nat):Prop where
  le:i<=max la.length lb.length\/i=max la.length lb.length+1/\c=0
  len:L.length=i
  w:W L
  c1:c<=1
  v:val L+2^(32*i)*c=val (la.take i)+val (lb.take i)
theorem b1j.zero(b a:List Nat):b1j b a 0 [] 0:=⟨.inl (Nat.zero_le _),rfl,awj,by omega,by simp[val]⟩
theorem b1j.step{f d L:List Nat}{i c:Nat}(h:b1j f d i L c)(j:W f)(g:W d)(m:(i<f.length\/i<d.length)\/0<c):
    b1j f d (i+1) (L++[(f.getD i 0+d.getD i 0+c)%4294967296]) ((f.getD i 0+d.getD i 0+c)/2^32):=by
  have r:=j.getD i
  have o:=g.getD i
  have n:=h.c1
  refine ⟨?_,by simp[h.len],aoq.2 ⟨h.w,yX.2 ⟨by omega,awj⟩⟩,by omega,?_⟩
  · rcases h.le with q|⟨q,k⟩
    · by_cases e:i=max f.length d.length
      · right
        rw[zJ (l:=f) oO,zJ (l:=d) oO]
        exact ⟨by omega,by omega⟩
      · left;omega
    · omega
  · rw[bwx,h.len,gQ,gQ,two32]
    have:=h.v
    generalize f.getD i 0=a at *
    generalize d.getD i 0=b at *
    generalize 2^(32*i)=p at *
    have e:p*((a+b+c)%4294967296)+p*4294967296*((a+b+c)/2^32)=p*a+p*b+p*c:=by
      rw[show (2:Nat)^32=4294967296 from rfl,Nat.mul_assoc,<- Nat.mul_add,Nat.mod_add_div,Nat.mul_add,Nat.mul_add]
    omega
theorem b1j.done{b a L:List Nat}{i c:Nat}(h:b1j b a i L c)(d : ¬((i<b.length\/i<a.length)\/0<c)):val L=val b+val a:=by
  have:=h.v
  rw[List.take_of_length_le oO,List.take_of_length_le oO,show c=0 by omega] at this
  simpa using this
theorem b1j.len_le{b a L:List Nat}{i c:Nat}(h:b1j b a i L c):i<=max b.length a.length+1:=by
  rcases h.le with q|⟨q,_⟩<;>omega
structure btq(la lb:List Nat)(i:Nat)(L:List Nat)(c:Nat):Prop where
  le:i<=la.length
  len:L.length=i
  w:W L
  c1:c<=1
  v:val L+val (lb.take i)=val (la.take i)+2^(32*i)*c
theorem btq.zero(b a:List Nat):btq b a 0 [] 0:=⟨Nat.zero_le _,rfl,awj,by omega,by simp[val]⟩
theorem btq.step{d f L:List Nat}{i c:Nat}(h:btq d f i L c)(k:W d)(j:W f)(g:i<d.length):
    btq d f (i+1) (L++[(d.getD i 0+4294967296-f.getD i 0-c)%4294967296]) (1-(d.getD i 0+4294967296-f.getD i 0-c)/2^32):=by
  have o:=k.getD i
  have n:=j.getD i
  have m:=h.c1
  refine ⟨g,by simp[h.len],aoq.2 ⟨h.w,yX.2 ⟨by omega,awj⟩⟩,by omega,?_⟩
  rw[bwx,h.len,gQ,gQ,two32]
  have:=h.v
  generalize d.getD i 0=a at *
  generalize f.getD i 0=b at *
  generalize 2^(32*i)=p at *
  have l:a+4294967296*(1-(a+4294967296-b-c)/2^32)=(a+4294967296-b-c)%4294967296+b+c:=by omega
  have e:p*a+p*4294967296*(1-(a+4294967296-b-c)/2^32)=p*((a+4294967296-b-c)%4294967296)+p*b+p*c:=by
    rw[Nat.mul_assoc,<- Nat.mul_add,l,Nat.mul_add,Nat.mul_add]
  omega
theorem btq.done{a b L:List Nat}{c:Nat}(h:btq a b a.length L c)(i:W a)(g:W b)(f:val b<=val a):val L=val a-val b:=by
  have d:=h.v
  have j:=vX h.w
  have l:=vX i
  have k:=h.c1
  rw[h.len] at j
  rw[List.take_length] at d
  have e:val (b.take a.length)=val b:=by
    by_cases q:a.length<=b.length
    · rw[cij g _ q,Nat.mod_eq_of_lt oO]
    · rw[List.take_of_length_le oO]
  rw[e] at d
  generalize 2^(32*a.length)=p at *
  have:c=0\/c=1:=by omega
  rcases this with rfl|rfl<;>omega
structure bhx(la:List Nat)(b k:Nat)(Q:List Nat)(r:Nat):Prop where
  le:k<=la.length
  len:Q.length=la.length
  w:W Q
  z : ∀ j,j<k->Q.getD j 0=0
  rl:r<b
  v:val (la.drop k)=val (Q.drop k)*b+r
theorem bhx.zero(a:List Nat){b:Nat}(c:0<b):bhx a b a.length (List.replicate a.length 0) 0:=by
  refine ⟨Nat.le_refl _,by simp,oZ _,λj _=>avj _ _,c,?_⟩
  rw[List.drop_length,List.drop_eq_nil_of_le oS]
  simp[val]
theorem bhx.bound{a Q:List Nat}{b k r:Nat}(h:bhx a b k Q r)(c:W a):a.getD (k-1) 0+4294967296*r<b*4294967296:=by
  have e:=c.getD (k-1)
  have d:=h.rl
  have:(r+1)*4294967296<=b*4294967296:=Nat.mul_le_mul_right _ d
  omega
theorem bhx.step{a Q:List Nat}{b k r:Nat}(h:bhx a b k Q r)(q:W a)(t:0<k):
    bhx a b (k-1) (Q.set (k-1) ((a.getD (k-1) 0+4294967296*r)/b)) ((a.getD (k-1) 0+4294967296*r)-b*((a.getD (k-1) 0+4294967296*r)/b)):=by
  have o:=h.le
  have f:=h.len
  have d:=h.bound q
  obtain ⟨i,rfl⟩ : ∃ i,k=i+1:=⟨k-1,by omega⟩
  rw[show i+1-1=i by omega] at *
  have c:0<b:=Nat.lt_of_le_of_lt (Nat.zero_le _) h.rl
  have p:=tJ (l:=a) (i:=i) oO
  have g:=h.v
  generalize hx:a.getD i 0+4294967296*r=x at *
  have m:x/b<4294967296:=(Nat.div_lt_iff_lt_mul c).2 (by rw[Nat.mul_comm];exact d)
  have s:=Nat.div_add_mod x b
  have n:=Nat.mod_lt x c
  refine ⟨by omega,by simp[h.len],h.w.set _ m,λj u=>?_,by omega,?_⟩
  · rw[Wd.getD_set_ne (i:=i) (j:=j) oO];exact h.z j oO
  · have e:=tJ (l:=Q.set i (x/b)) (i:=i) (by rw[List.length_set];omega)
    rw[Wd.yQ oO,show (Q.set i (x/b)).drop (i+1)=Q.drop (i+1) from List.drop_set_of_lt oO] at e
    rw[p,e,g,Nat.add_mul,Nat.mul_add,Nat.mul_assoc]
    have:x/b*b=b*(x/b):=Nat.mul_comm _ _
    omega
theorem bhx.stay{a Q:List Nat}{b k r:Nat}(h:bhx a b k Q r)(q:W a)(o:0<k)(c:a.getD (k-1) 0+4294967296*r<b):
    bhx a b (k-1) Q (a.getD (k-1) 0+4294967296*r):=by
  have g:=h.le
  have d:=h.len
  obtain ⟨i,rfl⟩ : ∃ i,k=i+1:=⟨k-1,by omega⟩
  rw[show i+1-1=i by omega] at *
  have n:=tJ (l:=a) (i:=i) oO
  have m:=tJ (l:=Q) (i:=i) oO
  have f:=h.v
  have e:=h.z i oO
  refine ⟨by omega,h.len,h.w,λj p=>h.z j oO,c,?_⟩
  rw[n,m,f,e,Nat.zero_add,Nat.mul_add,Nat.mul_assoc]
  omega
theorem bhx.done{a Q:List Nat}{b r:Nat}(h:bhx a b 0 Q r):val Q=val a/b/\r=val a%b:=by
  have c:=h.v
  have d:=h.rl
  rw[List.drop_zero,List.drop_zero] at c
  rw[c,Nat.mul_comm]
  exact ⟨by rw[Nat.mul_add_div oO,Nat.div_eq_of_lt d,Nat.add_zero],by rw[Nat.mul_add_mod,Nat.mod_eq_of_lt d]⟩
theorem tz_bits{n:Nat}(h:n≠0):n.testBit (tz n)=true/\∀ j,j<tz n->n.testBit j=false:=by
  obtain ⟨b,a⟩:=akx h
  refine ⟨by rw[Nat.testBit_eq_decide_div_mod_eq];exact decide_eq_true b,λj c=>?_⟩
  rw[Nat.testBit_eq_decide_div_mod_eq]
  refine decide_eq_false ?_
  have e:n/2^j=n/2^tz n*2^(tz n-j-1)*2:=by
    conv=>lhs;rw[a]
    rw[show (2:Nat)^tz n=2^(tz n-j-1)*2*2^j by rw[<- Nat.pow_succ,<- Nat.pow_add];congr 1;omega,<- Nat.mul_assoc,Nat.mul_div_cancel _ (Nat.two_pow_pos j),Nat.mul_assoc,Nat.mul_assoc]
  rw[e,Nat.mul_mod_left]
  decide
theorem bl_half{x:Nat}(h:x≠0):bl x=bl (x/2)+1:=by
  by_cases h1:x=1
  · subst h1;decide
  · have:=b0j (x:=x) (k:=1) oO
    rw[this];simp[Nat.add_comm]
theorem val_zeros(k:Nat)(l:List Nat):val (List.replicate k 0++l)=val l*2^(32*k):=by
  rw[ayx,agx,List.length_replicate,Nat.zero_add,Nat.mul_comm]
def Fh(w0:World)(v:Value):Prop:=∀ ad m c,v = .slice (some ad) m c->w0.heap.size<=ad.block
def Av(b:Nat)(v:Value):Prop:=∀ ad m c,v = .slice (some ad) m c->ad.block≠b
theorem Fh.mono{b a:World}{v:Value}(h:Fh a v)(d:b.heap.size<=a.heap.size):Fh b v:=λad m c e=>Nat.le_trans d (h ad m c e)
theorem Fh.av{a:World}{v:Value}{b:Nat}(h:Fh a v)(d:b<a.heap.size):Av b v:=λad m c e=>by
  have:=h ad m c e
  omega
theorem Fh.nil{a:World}{m c:Nat}: Fh a (.slice none m c):=λad m c e=>by cases e
theorem Av.nil{b m c:Nat}: Av b (.slice none m c):=λad m c e=>by cases e
theorem GR.fh{w a:World}{e:TypeId}{f:Nat->Value}{X:List Nat}{v:Value}{l:List Nat}{lo:Nat}(h:GR w e f lo X v l)(b:a.heap.size<=lo):Fh a v:=λad m c e=>by
  subst e
  have:=(h.2 ad.block rfl).1
  omega
theorem NU.keepOB{w w':World}{v:Value}{l:List Nat}{b:Nat}{E:TypeId}{d:List Nat}(h:NU w v l)(o:OB w b E d)(g:Chg [b] w w')(f:Av b v):NU w' v l:=by
  obtain ⟨⟨a,c,rfl,m,k⟩,j,i⟩:=h
  exact ⟨⟨a,c,rfl,m,k.keepB g λn e=>by subst e;have:=f n _ _ rfl;simpa using this⟩,j,i⟩
theorem bhq{a b:Nat}: sgn a b<=0↔a<=b:=by unfold sgn;split<;>(try split)<;>omega
theorem ddx{a b:Nat}: 0<=sgn a b↔b<=a:=by unfold sgn;split<;>(try split)<;>omega
theorem bkx{a b:Nat}: sgn a b=0↔a=b:=by unfold sgn;split<;>(try split)<;>omega
theorem len_up{x v k:Nat}(h:x<v*4294967296)(a:v<2^(32*k)):(wd x).length<=k+1:=
  aQ.2 (Nat.lt_of_lt_of_le h (by rw[two32];exact Nat.mul_le_mul_right _ (Nat.le_of_lt a)))
theorem cqj(m:Nat)(h:m<4294967296):val [m]=m:=by simp[val]
structure K0s(l:List Nat)(w:World)(k:Nat)(wr:World):Prop where
  le:k<=l.length
  vl:val (l.take k)=val l
  eq:w=wr
theorem a2x(v:Value)(l:List Nat)(w:World)(h:NU w v l):Ret Tryz.prog 233 [v] w λu w'=>u = .int .i64 ((wd (val l)).length:Int)/\w=w':=by
 obtain ⟨⟨y,x,rfl,q,d⟩,f,t⟩:=h;have e:=crf w;refine zE1 Tryz.func233 rfl ?_;refine Sr λ_ o=>za rfl (zz (o (Sr λ_ n=>zm rfl (zn rfl (za rfl (zz (n (zc λ_ m=>CW.block ?_))))))));refine CW.loop (S:=λk:Nat=>[(0,.slice y l.length x),(3,.int .i64 (k:Int))]) (Inv:=K0s l w) (mu:=λk=>k) (l.length) ?_ ?_ ?_
 ·exact ⟨Nat.le_refl _,by rw[List.take_length],rfl⟩
 ·exact SLp
 rintro k _ ⟨a,c,rfl⟩;refine zc λ_ j=>?_;refine CW.oJ 15 (decide (0<k/\l.getD (k-1) 0=0)) ?_ ?_
 ·refine zS λ_ b=>zm rfl (zG rfl rfl (zm rfl ?_));refine zb ?_ ?_<;>intro p<;>try simp only[qs] at p
  ·refine zw rfl (zm rfl (zw rfl (zm rfl (zw rfl ?_))))
   first|refine WL.ev (Ev.dX rfl rfl oO) rfl ?_|refine WL.ev (Ev.sub rfl rfl) rfl ?_
   refine zw rfl ?_;refine WL.ev (Ev.ixR ((k-1)) rfl rfl (d.q5 e) oO oO oT) rfl ?_;refine zw rfl ?_;refine WL.ev (Ev.load rfl rfl ((d.q5 e).u32 oF)) rfl ?_;have s:=f.getD ((k-1));refine zw rfl (zq rfl rfl (zt rfl rfl (zz (b ?_))));refine ⟨rfl,rfl,q9.g7 rfl ?_ ?_⟩
   ·first|(simp;omega)|(refine decide_eq_decide.2 ?_;omega)
   exact SMg
  refine zv rfl (zv rfl (zv rfl (zv rfl (zv rfl (zv rfl (ze rfl rfl (zz (b ?_))))))));refine ⟨rfl,rfl,q9.g7 rfl ?_ ?_⟩
  ·first|(simp;omega)|(refine decide_eq_decide.2 ?_;omega)
  exact SMg
 refine zy rfl ?_ ?_<;>intro r<;>try simp only[qs] at r
 ·refine zkk (j (CW.block (zS λ_ g=>zm rfl ?_)))
  first|refine WL.ev (Ev.dX rfl rfl oO) rfl ?_|refine WL.ev (Ev.sub rfl rfl) rfl ?_
  refine za rfl (zz (g ?_));refine ⟨rfl,k-1,?_,?_,?_⟩
  ·exact SLp
  ·exact ⟨by omega,by rw[b3x a oO oO];exact c,rfl⟩
  omega
 refine CW.exit ?_;refine m (Sr λ_ i=>zm rfl (za rfl (zz (i ?_))));refine zr (zr1 rfl rfl ?_);rw[cut_wd f a c oO,c9q a];exact ⟨rfl,rfl⟩
theorem wQ(v:Value)(l:List Nat)(w:World)(h:NU w v l)(s:(wd (val l)).length<=35184372088832):Ret Tryz.prog 224 [v] w λu w'=>NU w' u (wd (val l))/\Chg [] w w'/\Fh w u:=by
 have p:=h;obtain ⟨⟨B,G,rfl,x,q⟩,c,y⟩:=h;have b:=crf w;obtain ⟨k,g⟩ : ∃ k,k=(wd (val l)).length:=⟨_,rfl⟩;have d:k<=l.length:=by rw[g];exact bX c
 have o:wd (val l)=l.take k:=by rw[g];exact c3j c
 rw[<- g] at s;have z:=c9q d;refine zE1 Tryz.func224 rfl ?_;refine Sr λ_ n=>za rfl (zz (n (Sr λ_ m=>za rfl (zz (m (Sr λ_ j=>zm rfl (zm rfl (zm rfl ?_))))))));refine WL.call hasF233 rfl rfl (a2x _ _ _ p) λv D A=>?_;obtain ⟨rfl,rfl⟩:=A;rw[<- g];refine WL.ev (Ev.c4j (k) rfl rfl rfl oO) rfl ?_;have r:RW w B ((l.take k).map kQ):=by rw[List.map_take];exact q.take k
 refine WL.c0x (f:=kQ) (lo:=w.heap.size) (X:=[]) (l:=[]) (news:=(l.take k)) (by rfl) (λi=>rfl) rfl rfl GR.nil (by first|rfl|(simp;done)|(simp;omega)|omega) (r.q5 b) (by first|omega|exact b.size|exact Nat.le_refl _) oS (by simp only[List.length_append,List.length_cons,List.length_nil];omega) (by simp only[List.length_append,List.length_cons,List.length_nil];omega) rfl λF C t e=>?_;have b:=b.trans (Chg.any (by simpa[Value.ownBlock] using e));have a:=t;rw[show ([]++(l.take k))=(l.take k) from by rfl] at a;refine za rfl (zz (j ?_));refine zr (zr1 rfl rfl ?_);rw[o];exact ⟨a.nu (c.take k) oO,b,a.fh (Nat.le_refl _)⟩
theorem blj(n:Nat)(w:World)(y:n<18446744073709551616):Ret Tryz.prog 159 [.int .u64 (n:Int)] w λu w'=>NU w' u (wd n)/\Chg [] w w'/\Fh w u:=by
 have a:=crf w;refine zE1 Tryz.func159 rfl ?_;refine Sr λ_ j=>za rfl (zz (j (zc λ_ i=>?_)));have k:val [n%4294967296,n/2^32%4294967296]=n:=by simp only[val];omega
 have g:W [n%4294967296,n/2^32%4294967296]:=yX.2 ⟨by omega,yX.2 ⟨by omega,awj⟩⟩;have l:=bX g;simp only[List.length_cons,List.length_nil] at l;refine zR λ_ h=>?_;refine zm rfl ?_;refine WL.ev (Ev.tZ rfl rfl) rfl ?_;refine zm rfl ?_;refine WL.ev (Ev.atx (b:=32) rfl rfl (by simp only[IntKind.bits];omega)) rfl ?_;refine WL.ev (Ev.tZ rfl rfl) rfl ?_;refine WL.buildSlice (m:=2) (cs:=[kQ ((n%4294967296)),kQ (((n/2^32)%4294967296))]) oD oD rfl oR rfl λt q c=>?_;have f:=c.chg;have e:=c.ge;have o:OB q t _ [(n%4294967296),((n/2^32)%4294967296)]:=c.at_;have d:=Nat.le_trans a.size e;have a:=a.ta f;refine WL.call hasF224 rfl rfl (wQ _ _ _ (NU.mJ o g oS rfl oO) oO) λv x s=>?_;obtain ⟨p,r,hF⟩:=s;rw[k] at p;have hF:=hF.mono a.size;have a:=a.ta r;refine za rfl ?_;refine WL.nil (h _ _ _ (i ?_));refine zr (zr1 rfl rfl ?_);exact ⟨p,a,hF⟩
theorem b4x(v:Value)(l:List Nat)(w:World)(h:NU w v l)(i:Nat)(q:i<9223372036854775808):Ret Tryz.prog 232 [v,.int .i64 (i:Int)] w λu w'=>u = .int .u64 ((l.getD i 0:Nat):Int)/\w=w':=by
 obtain ⟨⟨s,r,rfl,k,a⟩,c,p⟩:=h;have b:=crf w;refine zE2 Tryz.func232 rfl ?_;refine Sr λ_ j=>za rfl (zz (j (zc λ_ g=>Sr λ_ f=>zm rfl (zm rfl (zn rfl ?_)))));refine WL.ev (Ev.geq rfl rfl) rfl ?_;refine zz (f ?_);refine zy rfl ?_ ?_<;>intro m<;>try simp only[qs] at m
 ·refine Sr λ_ e=>za rfl (zz (e ?_));refine zr (zr1 rfl rfl ?_);rw[zJ oO];exact ⟨rfl,rfl⟩
 have o:=c.getD i;refine zkk (g (Sr λ_ d=>zm rfl (zm rfl ?_)));refine WL.ev (Ev.ixR (i) rfl rfl (a.q5 b) oO oO oT) rfl ?_;refine WL.ev (Ev.load rfl rfl ((a.q5 b).u32 oF)) rfl ?_;have n:=c.getD (i);refine WL.ev (Ev.dZ rfl rfl (iZ oO)) rfl ?_;refine za rfl (zz (d ?_));refine zr (zr1 rfl rfl ?_);exact ⟨rfl,rfl⟩
theorem r2Bit_spec(v:Value)(l:List Nat)(w:World)(h:NU w v l)(n:Nat)(t:n<9223372036854775808):Ret Tryz.prog 259 [v,.int .i64 (n:Int)] w λu w'=>u = .bool ((val l).testBit n)/\w=w':=by
 obtain ⟨⟨y,x,rfl,o,d⟩,f,s⟩:=h;have e:=crf w;have c:=b9x f n;refine zE2 Tryz.func259 rfl ?_;refine Sr λ_ k=>za rfl (zz (k (zc λ_ j=>?_)));refine CW.oJ 13 (decide (l.length<=n/32)) ?_ ?_
 ·refine zS λ_ a=>zm rfl (zL rfl rfl (zm rfl ?_));refine zb ?_ ?_<;>intro m<;>try simp only[qs] at m
  ·refine zv rfl (zv rfl (zv rfl (zv rfl (zv rfl (zt rfl rfl (zz (a ?_)))))));refine ⟨rfl,rfl,q9.g7 rfl ?_ ?_⟩
   ·first|(exfalso;omega)|(simp;omega)|(refine decide_eq_decide.2 ?_;omega)
   exact SMg
  refine zw rfl (zm rfl (zw rfl ?_));refine WL.ev (Ev.cax (b:=32) rfl rfl oO (by simp only[IntKind.max,IntKind.signed,IntKind.bits];omega) oO) rfl ?_;rw[show (n:Int)/32=((n/32:Nat):Int) by omega];refine zw rfl (zm rfl (zw rfl (zn rfl (zw rfl ?_))));refine WL.ev (Ev.geq rfl rfl) rfl ?_;refine ze rfl rfl (zz (a ?_));refine ⟨rfl,rfl,q9.g7 rfl ?_ ?_⟩
  ·first|(exfalso;omega)|(simp;omega)|(refine decide_eq_decide.2 ?_;omega)
  exact SMg
 refine zy rfl ?_ ?_<;>intro p<;>try simp only[qs] at p
 ·refine Sr λ_ i=>za rfl (zz (i ?_));refine zr (zr1 rfl rfl ?_);refine ⟨?_,rfl⟩;rw[c,zJ oO];simp
 refine zkk (j (Sr λ_ g=>zm rfl (zm rfl ?_)));refine WL.ev (Ev.cax (b:=32) rfl rfl oO (by simp only[IntKind.max,IntKind.signed,IntKind.bits];omega) oO) rfl ?_;rw[show (n:Int)/32=((n/32:Nat):Int) by omega];refine WL.ev (Ev.ixR ((n/32)) rfl rfl (d.q5 e) oO oO oT) rfl ?_;refine WL.ev (Ev.load rfl rfl ((d.q5 e).u32 oF)) rfl ?_;have q:=f.getD ((n/32));refine zm rfl ?_;refine WL.ev (Ev.dfq (b:=32) rfl rfl oO oO) rfl ?_;rw[show (n:Int)%32=((n%32:Nat):Int) by omega];refine WL.ev (Ev.atx rfl rfl (by simp only[IntKind.bits];omega)) rfl ?_;have r:l.getD (n/32) 0/2^(n%32)<=l.getD (n/32) 0:=Nat.div_le_self _ _;refine WL.ev (Ev.andU (b:=1) rfl rfl rfl (by simp only[IntKind.bits];omega) (by simp only[IntKind.bits];omega)) rfl ?_;rw[Nat.and_one_is_mod];refine zq rfl rfl (za rfl (zz (g ?_)));refine zr (zr1 rfl rfl ?_);refine ⟨?_,rfl⟩;rw[c]
 congr 1
 refine decide_eq_decide.2 ?_;omega
structure KLns(x0 B:Nat)(w:World)(g:Nat×Nat)(wr:World):Prop where
  le:g.1<=x0
  eq:g.2+bl g.1=B
  w_:w=wr
theorem a9q(v:Value)(l:List Nat)(w:World)(h:NU w v l)(a3:l.length<=35184372088832):Ret Tryz.prog 223 [v] w λu w'=>u = .int .i64 (bl (val l):Int)/\w=w':=by
 have f:=h;obtain ⟨⟨al,cl,rfl,R,A⟩,a,a4⟩:=h;have C:=crf w;obtain ⟨k,D⟩ : ∃ k,k=(wd (val l)).length:=⟨_,rfl⟩;have B:k<=l.length:=by rw[D];exact bX a
 have z:wd (val l)=l.take k:=by rw[D];exact c3j a
 have O:=g6 (val l);have a2:=a0x (n:=val l);have d:=c9q B;refine zE1 Tryz.func223 rfl ?_;refine Sr λ_ J=>za rfl (zz (J (Sr λ_ I=>zm rfl ?_)));refine WL.call hasF233 rfl rfl (a2x _ _ _ f) λv w1 h'=>?_;obtain ⟨rfl,rfl⟩:=h';rw[<- D];refine za rfl (zz (I (zc λ_ H=>Sr λ_ G=>zm rfl (zq rfl rfl (zz (G ?_))))));refine zy rfl ?_ ?_<;>intro U<;>try simp only[qs] at U
 ·refine Sr λ_ F=>za rfl (zz (F ?_));refine zr (zr1 rfl rfl ?_);have f:val l=0:=by omega
  rw[f];exact ⟨rfl,rfl⟩
 have c:=ciq (show val l≠0 by omega);rw[<- D,z] at c;have Q:(l.take k).getD (k-1) 0=l.getD (k-1) 0:=by rw[List.getD_eq_getElem?_getD,List.getD_eq_getElem?_getD,List.getElem?_take,if_pos oO]
 have V:=bl_val (a.take k) (λe=>by rw[e] at d;simp at d;omega) (by rw[d];exact c);rw[d,Q,<- z,O] at V;have Z:=uJ.2 (show l.getD (k-1) 0<2^32 from a.getD _);refine zkk (H (Sr λ_ y=>zm rfl ?_))
 first|refine WL.ev (Ev.dX rfl rfl oO) rfl ?_|refine WL.ev (Ev.sub rfl rfl) rfl ?_
 refine WL.ev (Ev.czj rfl rfl oO) rfl ?_;refine za rfl (zz (y (zc λ_ t=>Sr λ_ s=>zm rfl (zm rfl ?_))))
 first|refine WL.ev (Ev.dX rfl rfl oO) rfl ?_|refine WL.ev (Ev.sub rfl rfl) rfl ?_
 refine WL.ev (Ev.ixR ((k-1)) rfl rfl (A.q5 C) oO oO oT) rfl ?_;refine WL.ev (Ev.load rfl rfl ((A.q5 C).u32 oF)) rfl ?_;have X:=a.getD ((k-1));refine za rfl (zz (s (CW.block ?_)));refine CW.loop (S:=λg:Nat×Nat=>[(4,.int .i64 (g.2:Int)),(5,.int .u32 (g.1:Int))]) (Inv:=KLns (l.getD (k-1) 0) (bl (val l)) w) (mu:=λg=>g.1) ((l.getD (k-1) 0,32*(k-1))) ?_ ?_ ?_
 ·exact ⟨Nat.le_refl _,by dsimp only;omega,rfl⟩
 ·exact SLp
 rintro ⟨x,q⟩ _ ⟨hx,Y,rfl⟩;dsimp only at hx Y;dsimp only;have a1:=a.getD (k-1);refine zc λ_ r=>Sr λ_ p=>zm rfl (zG rfl rfl (zz (p ?_)));refine zy rfl ?_ ?_<;>intro T<;>try simp only[qs] at T
 ·refine zkk (r (zc λ_ o=>CW.block ?_));refine zR λ_ j=>?_
  refine zm rfl ?_;(first|refine zi rfl rfl ?_|refine zo rfl rfl ?_);refine za rfl ?_;refine WL.nil (j _ _ _ (o ?_));refine zS λ_ i=>zm rfl ?_;refine WL.ev (Ev.djj (b:=2) rfl rfl oO (in_u32 oO).2) rfl ?_;refine za rfl (zz (i ?_));refine ⟨rfl,(x/2,q+1),?_,?_,?_⟩
  ·exact SLp
  ·exact ⟨by dsimp only;omega,by dsimp only;have:=bl_half (x:=x) oO;omega,rfl⟩
  show x/2<x;omega
 refine CW.exit ?_;refine t (Sr λ_ m=>zm rfl (za rfl (zz (m ?_))));refine zr (zr1 rfl rfl ?_);have M:x=0:=by omega
 rw[M,bl_zero] at Y;exact ⟨by first|rfl|(congr 1;omega),rfl⟩
structure KLws(n:Nat)(w:World)(i:Nat)(wr:World):Prop where
  le:i<=tz n
  w_:w=wr
theorem r2Low_spec(v:Value)(l:List Nat)(w:World)(h:NU w v l)(O:l.length<=35184372088832):Ret Tryz.prog 238 [v] w λu w'=>u = .int .i64 (tz (val l):Int)/\w=w':=by
  have a:=h;obtain ⟨⟨U,T,rfl,C,J⟩,r,Q⟩:=h;have R:=crf w;obtain ⟨k,H⟩ : ∃ k,k=(wd (val l)).length:=⟨_,rfl⟩;have G:k<=l.length:=by rw[H];exact bX r
  have M:=a0x (n:=val l);refine zE1 Tryz.func238 rfl ?_;refine Sr λ_ z=>za rfl (zz (z (zc λ_ y=>Sr λ_ x=>zm rfl ?_)));refine WL.call hasF233 rfl rfl (a2x _ _ _ a) λv X F=>?_;obtain ⟨rfl,rfl⟩:=F;rw[<- H];refine zq rfl rfl (zz (x ?_));refine zy rfl ?_ ?_<;>intro D<;>try simp only[qs] at D
  · refine Sr λ_ t=>za rfl (zz (t ?_));refine zr (zr1 rfl rfl ?_);have a:val l=0:=by omega
    rw[a,tz_zero];exact ⟨rfl,rfl⟩
  have m:val l≠0:=by omega
  obtain ⟨B,A⟩:=tz_bits m;have I:tz (val l)<32*l.length:=Nat.lt_of_lt_of_le (yJ m) (uJ.2 (vX r));refine zkk (y (Sr λ_ s=>za rfl (zz (s (zc λ_ j=>CW.block ?_)))));refine CW.loop (S:=λi:Nat=>[(0,.slice U l.length T),(3,.int .i64 (i:Int))]) (Inv:=KLws (val l) w) (mu:=λi=>tz (val l)-i) (0) ?_ ?_ ?_
  · exact ⟨Nat.zero_le _,rfl⟩
  · exact SLp
  rintro i _ ⟨Y,rfl⟩;refine zc λ_ g=>Sr λ_ f=>zm rfl (zm rfl ?_);refine WL.call hasF259 rfl rfl (r2Bit_spec _ _ _ a i oO) λv V F=>?_;obtain ⟨rfl,rfl⟩:=F;refine zT rfl (zz (f ?_));refine zy rfl ?_ ?_<;>intro b<;>try simp only[qs] at b
  · have o:i+1<=tz (val l):=by
      rcases Nat.lt_or_ge i (tz (val l)) with q|q
      · exact q
      have e:i=tz (val l):=by omega
      rw[e,B] at b;simp at b
    refine zkk (g (CW.block (zS λ_ c=>zm rfl ?_)));(first|refine zi rfl rfl ?_|refine zo rfl rfl ?_);refine za rfl (zz (c ?_));refine ⟨rfl,i+1,?_,?_,?_⟩
    · exact SLp
    · exact ⟨o,rfl⟩
    show tz (val l)-(i+1)<tz (val l)-i;omega
  have p:=b;refine CW.exit ?_;refine j (Sr λ_ d=>zm rfl (za rfl (zz (d ?_))));refine zr (zr1 rfl rfl ?_);refine ⟨?_,rfl⟩;have e:i=tz (val l):=by
    rcases Nat.lt_or_ge i (tz (val l)) with q|q
    · have:=A i q
      rw[this] at p;simp at p
    omega
  rw[e]
structure KCs(A B:List Nat)(w:World)(k:Nat)(wr:World):Prop where
  le:k<=A.length
  eq:A.drop k=B.drop k
  chg:Chg [] w wr
theorem ayq(va vb:Value)(j i:List Nat)(w:World)(ha:NU w va j)(hb:NU w vb i):Ret Tryz.prog 174 [va,vb] w λu w'=>u = .int .i64 (sgn (val j) (val i))/\Chg [] w w':=by
 have b8:=ha;have b7:=hb;obtain ⟨⟨a1,c1,rfl,a3,Y⟩,h,d1⟩:=ha;obtain ⟨⟨a0,c0,rfl,a2,X⟩,g,d0⟩:=hb;have c:=crf w;obtain ⟨A,q⟩ : ∃ A,A=wd (val j):=⟨_,rfl⟩;have V:val A=val j:=by rw[q];exact g6 _
 have d3:A.length<=j.length:=by rw[q];exact bX h
 have o:W A:=by rw[q];exact W_wd _
 have f:RW w a1 (A.map kQ):=by
  have:=c3j h;rw[<- q] at this;rw[this,List.map_take];exact Y.take _
 obtain ⟨B,p⟩ : ∃ B,B=wd (val i):=⟨_,rfl⟩;have U:val B=val i:=by rw[p];exact g6 _
 have d2:B.length<=i.length:=by rw[p];exact bX g
 have n:W B:=by rw[p];exact W_wd _
 have e:RW w a0 (B.map kQ):=by
  have:=c3j g;rw[<- p] at this;rw[this,List.map_take];exact X.take _
 have hs:=c5x (a:=val j) (b:=val i);rw[<- q,<- p] at hs;refine zE2 Tryz.func174 rfl ?_;refine Sr λ_ a8=>za rfl (zz (a8 (Sr λ_ a7=>zm rfl ?_)));refine WL.call hasF233 rfl rfl (a2x _ _ _ b8) λv w1 h'=>?_;obtain ⟨rfl,rfl⟩:=h';rw[<- q];refine za rfl (zz (a7 (Sr λ_ a6=>zm rfl ?_)));refine WL.call hasF233 rfl rfl (a2x _ _ _ b7) λv w2 h'=>?_;obtain ⟨rfl,rfl⟩:=h';rw[<- p];refine za rfl (zz (a6 (zc λ_ a5=>Sr λ_ a4=>zm rfl (zm rfl (zN rfl rfl (zz (a4 ?_)))))));refine zy rfl ?_ ?_<;>intro b6<;>try simp only[qs] at b6
 ·refine zc λ_ T=>Sr λ_ R=>zm rfl (zm rfl (zL rfl rfl (zz (R ?_))));refine zy rfl ?_ ?_<;>intro b5<;>try simp only[qs] at b5
  ·refine Sr λ_ Q=>za rfl (zz (Q ?_));refine zr (zr1 rfl rfl ?_);rw[hs.1 oO];exact ⟨rfl,c⟩
  refine zkk (T (Sr λ_ O=>za rfl (zz (O ?_))));refine zr (zr1 rfl rfl ?_);rw[hs.2 oO];exact ⟨rfl,c⟩
 have Z:A.length=B.length:=by omega
 refine zkk (a5 (zc λ_ M=>Sr λ_ J=>zm rfl ?_))
 first|refine WL.ev (Ev.dX rfl rfl oO) rfl ?_|refine WL.ev (Ev.sub rfl rfl) rfl ?_
 refine za rfl (zz (J (CW.block ?_)));refine CW.loop (S:=λk:Nat=>[(0,.slice a1 j.length c1),(1,.slice a0 i.length c0),(5,.int .i64 ((k:Int)-1))]) (Inv:=KCs A B w) (mu:=λk=>k) (A.length) ?_ ?_ ?_
 ·exact ⟨Nat.le_refl _,by rw[List.drop_length,Z,List.drop_length],c⟩
 ·exact SLp
 rintro k wr ⟨d6,l,c⟩;refine zc λ_ I=>Sr λ_ H=>zm rfl ?_;refine WL.ev (Ev.geq rfl rfl) rfl ?_;refine zz (H ?_);refine zy rfl ?_ ?_<;>intro b4<;>try simp only[qs] at b4
 ·have b0:k-1+1=k:=by omega
  have d:=ddq o n Z (k:=k-1) oO (by rw[b0];exact l);rw[V,U] at d;refine zkk (I (zc λ_ G=>CW.block (zc λ_ F=>zc λ_ D=>?_)));refine CW.jQ cJ oR λc5 t m=>?_;have c:=c.ta m;refine ym rfl (ym rfl ?_);refine WS.ev (Ev.ixR ((k-1)) rfl rfl (f.q5 c) oO oO oT) rfl ?_;refine WS.ev (Ev.load rfl rfl ((f.q5 c).u32 oF)) rfl ?_;have c9:=o.getD ((k-1));refine ym rfl (ym rfl ?_);refine WS.ev (Ev.ixR ((k-1)) rfl rfl (e.q5 c) oO oO oT) rfl ?_;refine WS.ev (Ev.load rfl rfl ((e.q5 c).u32 oF)) rfl ?_;have c8:=n.getD ((k-1));refine WS.ev (Ev.lss rfl rfl) rfl ?_;refine WS.nil (t _ _ ?_);refine D ?_;refine zy rfl ?_ ?_<;>intro b3<;>try simp only[qs] at b3
  ·refine Sr λ_ C=>za rfl (zz (C ?_));refine zr (zr1 rfl rfl ?_);rw[d.1 oO];exact ⟨rfl,c⟩
  refine zkk (F (zc λ_ z=>?_));refine CW.jQ cJ oR λc4 s m=>?_;have c:=c.ta m;refine ym rfl (ym rfl ?_);refine WS.ev (Ev.ixR ((k-1)) rfl rfl (f.q5 c) oO oO oT) rfl ?_;refine WS.ev (Ev.load rfl rfl ((f.q5 c).u32 oF)) rfl ?_;have c7:=o.getD ((k-1));refine ym rfl (ym rfl ?_);refine WS.ev (Ev.ixR ((k-1)) rfl rfl (e.q5 c) oO oO oT) rfl ?_;refine WS.ev (Ev.load rfl rfl ((e.q5 c).u32 oF)) rfl ?_;have c6:=n.getD ((k-1));refine WS.ev (Ev.gtr rfl rfl) rfl ?_;refine WS.nil (s _ _ ?_);refine z ?_;refine zy rfl ?_ ?_<;>intro b2<;>try simp only[qs] at b2
  ·refine Sr λ_ y=>za rfl (zz (y ?_));refine zr (zr1 rfl rfl ?_);rw[d.2.1 oO];exact ⟨rfl,c⟩
  refine zkk (G (zS λ_ r=>zm rfl ?_))
  first|refine WL.ev (Ev.dX rfl rfl oO) rfl ?_|refine WL.ev (Ev.sub rfl rfl) rfl ?_
  refine za rfl (zz (r ?_));refine ⟨rfl,k-1,?_,?_,?_⟩
  ·exact SLp
  ·exact ⟨by omega,d.2.2 oO,c⟩
  omega
 refine CW.exit ?_;refine M (Sr λ_ x=>za rfl (zz (x ?_)));refine zr (zr1 rfl rfl ?_);have b1:k=0:=by omega
 subst b1;rw[List.drop_zero,List.drop_zero] at l;rw[<- V,<- U,l,dcj];exact ⟨rfl,c⟩
structure KPls(X Y:List Nat)(w:World)(g:Nat×List Nat×Nat×Value)(wr:World):Prop where
  a:b1j X Y g.1 g.2.1 g.2.2.1
  gr:GR wr 162 kQ w.heap.size [] g.2.2.2 g.2.1
  ch:Chg [] w wr
structure KMis(X Y:List Nat)(w:World)(g:Nat×List Nat×Nat×Value)(wr:World):Prop where
  a:btq X Y g.1 g.2.1 g.2.2.1
  gr:GR wr 162 kQ w.heap.size [] g.2.2.2 g.2.1
  ch:Chg [] w wr
theorem byj(va vb:Value)(h e:List Nat)(w:World)(ha:NU w va h)(hb:NU w vb e)(c4:h.length<=1099511627776)(c3:e.length<=1099511627776):Ret Tryz.prog 173 [va,vb] w λu w'=>NU w' u (wd (val h+val e))/\Chg [] w w'/\Fh w u:=by
 have a4:=ha;have a3:=hb;obtain ⟨⟨a9,a6,rfl,O,b3⟩,p,b5⟩:=ha;obtain ⟨⟨a8,a5,rfl,M,b2⟩,o,b4⟩:=hb;have a:=crf w;refine zE2 Tryz.func173 rfl ?_;refine Sr λ_ Z=>za rfl (zz (Z (Sr λ_ Y=>za rfl (zz (Y (Sr λ_ V=>za rfl (zz (V (zc λ_ U=>Sr λ_ T=>za rfl (zz (T (CW.block ?_))))))))))));refine CW.loop (S:=λg:Nat×List Nat×Nat×Value=>[(0,.slice a9 h.length a6),(1,.slice a8 e.length a5),(5,g.2.2.2),(6,.int .u64 (g.2.2.1:Int)),(7,.int .i64 (g.1:Int))]) (Inv:=KPls h e w) (mu:=λg=>max h.length e.length+1-g.1) ((0,[],0,.slice none 0 0)) ?_ ?_ ?_
 ·exact ⟨b1j.zero _ _,GR.nil,a⟩
 ·exact SLp
 rintro ⟨i,L,c,vo⟩ wr ⟨q,d,a⟩;dsimp only at q d a;dsimp only;have c5:=q.len_le;have c7:=q.len;have c6:=q.c1;have c2:=p.getD i;have c0:=o.getD i;refine zc λ_ G=>?_;refine CW.oJ 22 (decide ((i<h.length\/i<e.length)\/0<c)) ?_ ?_
 ·refine zS λ_ j=>zm rfl (zm rfl (zn rfl (zL rfl rfl (zm rfl ?_))));refine zb ?_ ?_<;>intro a1<;>try simp only[qs] at a1
  ·refine zv rfl (zv rfl (zv rfl (zv rfl (zt rfl rfl (zm rfl (zv rfl (zv rfl (zt rfl rfl (zz (j ?_))))))))));refine ⟨rfl,rfl,q9.g7 rfl ?_ ?_⟩
   ·first|(simp;omega)|(simp_all;done)|(refine decide_eq_decide.2 ?_;omega)
   exact SMg
  refine zw rfl (zm rfl (zw rfl (zm rfl (zw rfl (zn rfl (zw rfl (zL rfl rfl (ze rfl rfl (zm rfl ?_)))))))));refine zb ?_ ?_<;>intro a0<;>try simp only[qs] at a0
  ·refine zv rfl (zv rfl (zt rfl rfl (zz (j ?_))));refine ⟨rfl,rfl,q9.g7 rfl ?_ ?_⟩
   ·first|(simp;omega)|(simp_all;done)|(refine decide_eq_decide.2 ?_;omega)
   exact SMg
  refine zw rfl (zm rfl (zw rfl (zG rfl rfl (ze rfl rfl (zz (j ?_))))));refine ⟨rfl,rfl,q9.g7 rfl ?_ ?_⟩
  ·first|(simp;omega)|(simp_all;done)|(refine decide_eq_decide.2 ?_;omega)
  exact SMg
 refine zy rfl ?_ ?_<;>intro x<;>try simp only[qs] at x
 ·have t:=x
  refine zkk (G (zc λ_ F=>CW.block (Sr λ_ D=>zm rfl (zm rfl ?_))));refine WL.call hasF232 rfl rfl (b4x _ _ _ (a4.q5 a) i oO) λv w1 J=>?_;obtain ⟨rfl,rfl⟩:=J;refine zm rfl (zm rfl ?_);refine WL.call hasF232 rfl rfl (b4x _ _ _ (a3.q5 a) i oO) λv w2 J=>?_;obtain ⟨rfl,rfl⟩:=J
  first|refine WL.ev (Ev.iX rfl rfl oO) rfl ?_|refine WL.ev (Ev.aaq rfl rfl) rfl ?_
  refine zm rfl ?_
  first|refine WL.ev (Ev.iX rfl rfl oO) rfl ?_|refine WL.ev (Ev.aaq rfl rfl) rfl ?_
  refine za rfl (zz (D (Sr λ_ C=>zm rfl (zm rfl ?_))));refine WL.ev (Ev.tZ rfl rfl) rfl ?_;refine WL.buildSlice (m:=1) (cs:=[kQ (((((h.getD i 0)+(e.getD i 0))+c)%4294967296))]) oD oD rfl oR rfl λa7 Q k=>?_;have n:=k.chg;have r:=k.ge;have I:OB Q a7 _ [((((h.getD i 0)+(e.getD i 0))+c)%4294967296)]:=k.at_;have y:=Nat.le_trans a.size r;have a:=a.ta n;have d:=d.q5 n;refine WL.c0x (f:=kQ) (lo:=w.heap.size) (X:=[]) (l:=L) (news:=[((((h.getD i 0)+(e.getD i 0))+c)%4294967296)]) (by rfl) (λi=>rfl) rfl rfl d (by first|rfl|(simp;done)|(simp;omega)|omega) I.row (by first|omega|exact a.size|exact Nat.le_refl _) oS (by simp only[List.length_append,List.length_cons,List.length_nil];omega) (by simp only[List.length_append,List.length_cons,List.length_nil];omega) rfl λR b9 H s=>?_;have a:=GR.frame d s a (by first|omega|exact Nat.le_refl _);have d:=H;refine za rfl (zz (C ?_));refine zR λ_ A=>?_;refine zm rfl ?_;refine WL.ev (Ev.atx (b:=32) rfl rfl (by simp only[IntKind.bits];omega)) rfl ?_;refine za rfl ?_;refine WL.nil (A _ _ _ (F ?_));refine zS λ_ z=>zm rfl ?_;(first|refine zi rfl rfl ?_|refine zo rfl rfl ?_);refine za rfl (zz (z ?_));refine ⟨rfl,(i+1,L++[(h.getD i 0+e.getD i 0+c)%4294967296],(h.getD i 0+e.getD i 0+c)/2^32,R),?_,?_,?_⟩
  ·exact SLp
  ·exact ⟨q.step p o t,d,a⟩
  show max h.length e.length+1-(i+1)<max h.length e.length+1-i;have:=(q.step p o t).len_le;omega
 have t:=x;have a2:=q.done oO;refine CW.exit ?_;refine U (Sr λ_ B=>zm rfl ?_);refine WL.call hasF224 rfl rfl (wQ _ _ _ (d.nu q.w oO) (by have:=bX q.w;omega)) λv w3 J=>?_;obtain ⟨hN,hC,hF⟩:=J;rw[a2] at hN;have hF:=hF.mono a.size;have a:=a.ta hC;refine za rfl (zz (B ?_));refine zr (zr1 rfl rfl ?_);exact ⟨hN,a,hF⟩
theorem brq(va vb:Value)(h p:List Nat)(w:World)(ha:NU w va h)(hb:NU w vb p)(c3:h.length<=1099511627776)(a0:val p<=val h):Ret Tryz.prog 175 [va,vb] w λu w'=>NU w' u (wd (val h-val p))/\Chg [] w w'/\Fh w u:=by
 have a4:=ha;have a3:=hb;obtain ⟨⟨a9,a6,rfl,O,b3⟩,o,b5⟩:=ha;obtain ⟨⟨a8,a5,rfl,M,b2⟩,n,b4⟩:=hb;have d:=crf w;refine zE2 Tryz.func175 rfl ?_;refine Sr λ_ Z=>za rfl (zz (Z (Sr λ_ Y=>za rfl (zz (Y (Sr λ_ V=>za rfl (zz (V (zc λ_ U=>Sr λ_ T=>za rfl (zz (T (CW.block ?_))))))))))));refine CW.loop (S:=λg:Nat×List Nat×Nat×Value=>[(0,.slice a9 h.length a6),(1,.slice a8 p.length a5),(5,g.2.2.2),(6,.int .u64 (g.2.2.1:Int)),(7,.int .i64 (g.1:Int))]) (Inv:=KMis h p w) (mu:=λg=>h.length-g.1) ((0,[],0,.slice none 0 0)) ?_ ?_ ?_
 ·exact ⟨btq.zero _ _,GR.nil,d⟩
 ·exact SLp
 rintro ⟨i,L,c,vo⟩ wr ⟨q,e,d⟩;dsimp only at q e d;dsimp only;have c4:=q.le;have c5:=q.len;have H:=q.c1;have c2:=o.getD i;have c0:=n.getD i;refine zc λ_ F=>Sr λ_ D=>zm rfl (zm rfl (zn rfl (zL rfl rfl (zz (D ?_)))));refine zy rfl ?_ ?_<;>intro H<;>try simp only[qs] at H
 ·refine zkk (F (zc λ_ C=>CW.block (Sr λ_ B=>zm rfl (zm rfl ?_))));refine WL.call hasF232 rfl rfl (b4x _ _ _ (a4.q5 d) i oO) λv w1 J=>?_
  obtain ⟨rfl,rfl⟩:=J
  first|refine WL.ev (Ev.iX (b:=4294967296) rfl rfl oO) rfl ?_|refine WL.ev (Ev.aaq (b:=4294967296) rfl rfl) rfl ?_
  refine zm rfl (zm rfl ?_);refine WL.call hasF232 rfl rfl (b4x _ _ _ (a3.q5 d) i oO) λv w2 J=>?_;obtain ⟨rfl,rfl⟩:=J
  first|refine WL.ev (Ev.bdx rfl rfl oO oO) rfl ?_|refine WL.ev (Ev.cyq rfl rfl oO) rfl ?_
  refine zm rfl ?_
  first|refine WL.ev (Ev.bdx rfl rfl oO oO) rfl ?_|refine WL.ev (Ev.cyq rfl rfl oO) rfl ?_
  refine za rfl (zz (B (Sr λ_ A=>zm rfl (zm rfl ?_))));refine WL.ev (Ev.tZ rfl rfl) rfl ?_;refine WL.buildSlice (m:=1) (cs:=[kQ ((((((h.getD i 0)+4294967296)-(p.getD i 0))-c)%4294967296))]) oD oD rfl oR rfl λa7 Q j=>?_;have k:=j.chg;have r:=j.ge;have I:OB Q a7 _ [(((((h.getD i 0)+4294967296)-(p.getD i 0))-c)%4294967296)]:=j.at_;have t:=Nat.le_trans d.size r;have d:=d.ta k;have e:=e.q5 k;refine WL.c0x (f:=kQ) (lo:=w.heap.size) (X:=[]) (l:=L) (news:=[(((((h.getD i 0)+4294967296)-(p.getD i 0))-c)%4294967296)]) (by rfl) (λi=>rfl) rfl rfl e (by first|rfl|(simp;done)|(simp;omega)|omega) I.row (by first|omega|exact d.size|exact Nat.le_refl _) oS (by simp only[List.length_append,List.length_cons,List.length_nil];omega) (by simp only[List.length_append,List.length_cons,List.length_nil];omega) rfl λR b9 G s=>?_;have d:=GR.frame e s d (by first|omega|exact Nat.le_refl _);have e:=G;refine za rfl (zz (A ?_));refine zR λ_ y=>?_;refine zm rfl ?_;refine WL.ev (Ev.atx (b:=32) rfl rfl (by simp only[IntKind.bits];omega)) rfl ?_
  first|refine WL.ev (Ev.bdx (a:=1) rfl rfl oO oO) rfl ?_|refine WL.ev (Ev.cyq (a:=1) rfl rfl oO) rfl ?_
  refine za rfl ?_;refine WL.nil (y _ _ _ (C ?_));refine zS λ_ x=>zm rfl ?_;(first|refine zi rfl rfl ?_|refine zo rfl rfl ?_);refine za rfl (zz (x ?_));refine ⟨rfl,(i+1,L++[(h.getD i 0+4294967296-p.getD i 0-c)%4294967296],1-(h.getD i 0+4294967296-p.getD i 0-c)/2^32,R),?_,?_,?_⟩
  ·exact SLp
  ·exact ⟨q.step o n oO,e,d⟩
  show h.length-(i+1)<h.length-i;omega
 have a1:i=h.length:=by omega
 subst a1;have a2:=q.done o n a0;refine CW.exit ?_;refine U (Sr λ_ z=>zm rfl ?_);refine WL.call hasF224 rfl rfl (wQ _ _ _ (e.nu q.w oO) (by have:=bX q.w;omega)) λv w3 J=>?_;obtain ⟨hN,hC,hF⟩:=J;rw[a2] at hN;have hF:=hF.mono d.size;have d:=d.ta hC;refine za rfl (zz (z ?_));refine zr (zr1 rfl rfl ?_);exact ⟨hN,d,hF⟩
structure KMs(la lb:List Nat)(w:World)(b:Nat)(g:Nat×List Nat)(wr:World):Prop where
  a:dvj la lb g.1 g.2
  ob:OB wr b 162 g.2
  chg:Chg [] w wr
structure KNs(x:Nat)(lb:List Nat)(i:Nat)(L0:List Nat)(w:World)(b:Nat)(g:Nat×List Nat×Nat)(wr:World):Prop where
  a:cpq x lb i L0 g.1 g.2.1 g.2.2
  ob:OB wr b 162 g.2.1
  chg:Chg [] w wr
theorem auj(va vb:Value)(f e:List Nat)(w:World)(ha:NU w va f)(hb:NU w vb e)(d3:f.length+e.length<=35184372088832):Ret Tryz.prog 165 [va,vb] w λu w'=>NU w' u (wd (val f*val e))/\Chg [] w w'/\Fh w u:=by
 obtain ⟨⟨a4,a2,rfl,a6,q⟩,m,c5⟩:=ha;obtain ⟨⟨a3,a1,rfl,a5,p⟩,n,c4⟩:=hb;have a:=crf w;refine zE2 Tryz.func165 rfl ?_;refine Sr λ_ b2=>za rfl (zz (b2 (Sr λ_ b1=>zm rfl (zn rfl (zm rfl (zn rfl ?_))))));(first|refine zi rfl rfl ?_|refine zo rfl rfl ?_);refine WL.baj (((f).length+(e).length)) (((f).length+(e).length)) rfl rfl oO oO oO oO oO rfl λo b6 d s r=>?_;have x:=Nat.le_trans a.size r;have a:=a.ta s;refine za rfl (zz (b1 (zc λ_ b0=>Sr λ_ a9=>za rfl (zz (a9 (CW.block ?_))))));refine CW.loop (S:=λg:Nat×List Nat=>[(0,.slice a4 f.length a2),(1,.slice a3 e.length a1),(5,.slice (some ⟨o,0,none⟩) (f.length+e.length) (f.length+e.length)),(6,.int .i64 (g.1:Int))]) (Inv:=KMs f e w o) (mu:=λg=>f.length-g.1) ((0,List.replicate (f.length+e.length) 0)) ?_ ?_ ?_
 ·exact ⟨dvj.zero f e,d,a⟩
 ·exact SLp
 rintro ⟨i,L0⟩ wr ⟨h,d,a⟩;dsimp only at h d a;have d5:=h.le;have d9:=h.len;refine zc λ_ a8=>Sr λ_ a7=>zm rfl (zm rfl (zn rfl (zL rfl rfl (zz (a7 ?_)))));refine zy rfl ?_ ?_<;>intro b5<;>try simp only[qs] at b5
 ·refine zkk (a8 (zc λ_ R=>CW.block (Sr λ_ Q=>za rfl (zz (Q (zc λ_ O=>Sr λ_ M=>za rfl (zz (M (CW.block ?_)))))))));refine CW.loop (S:=λg:Nat×List Nat×Nat=>[(0,.slice a4 f.length a2),(1,.slice a3 e.length a1),(5,.slice (some ⟨o,0,none⟩) (f.length+e.length) (f.length+e.length)),(6,.int .i64 (i:Int)),(7,.int .u64 (g.2.2:Int)),(8,.int .i64 (g.1:Int))]) (Inv:=KNs (f.getD i 0) e i L0 w o) (mu:=λg=>e.length-g.1) ((0,L0,0)) ?_ ?_ ?_
  ·exact ⟨cpq.zero h.w,d,a⟩
  ·exact SLp
  rintro ⟨j,L,c⟩ d1 ⟨t,d,a⟩;dsimp only at t d a;have d4:=t.le;have c7:=t.len;have a0:=t.w;have Z:=t.c1;refine zc λ_ J=>Sr λ_ I=>zm rfl (zm rfl (zn rfl (zL rfl rfl (zz (I ?_)))));refine zy rfl ?_ ?_<;>intro b4<;>try simp only[qs] at b4
  ·have l:=cpq.fits (m.getD i) (n.getD j) (a0.getD (i+j)) Z
   have d2:=m.getD i;refine zkk (J (zc λ_ H=>CW.block (zc λ_ G=>?_)));refine CW.jQ cJ oR λb9 C V=>?_;have a:=a.ta V;have d:=d.k0 V;refine ym rfl (ym rfl ?_);refine WS.ev (Ev.ixR (i) rfl rfl (q.q5 a) oO oO oT) rfl ?_;refine WS.ev (Ev.load rfl rfl ((q.q5 a).u32 oF)) rfl ?_;have c3:=m.getD (i);refine WS.ev (Ev.dZ rfl rfl (iZ oO)) rfl ?_;refine ym rfl (ym rfl ?_);refine WS.ev (Ev.ixR (j) rfl rfl (p.q5 a) oO oO oT) rfl ?_;refine WS.ev (Ev.load rfl rfl ((p.q5 a).u32 oF)) rfl ?_;have c2:=n.getD (j);refine WS.ev (Ev.dZ rfl rfl (iZ oO)) rfl ?_;refine WS.ev (Ev.mul64In rfl rfl l.2.1) rfl ?_;refine ym rfl (ym rfl (ym rfl ?_))
   first|refine WS.ev (Ev.jZ rfl rfl oO) rfl ?_|refine WS.ev (Ev.add rfl rfl) rfl ?_
   refine WS.ev (Ev.ixB ((i+j)) rfl rfl oO oO) rfl ?_;refine WS.ev (Ev.load rfl rfl (d.u32 oF)) rfl ?_;have c0:=a0.getD ((i+j));refine WS.ev (Ev.dZ rfl rfl (iZ oO)) rfl ?_;refine WS.ev (Ev.iX rfl rfl l.2.2) rfl ?_;refine ym rfl ?_;refine WS.ev (Ev.iX rfl rfl l.1) rfl ?_;refine ya rfl ?_;refine WS.nil (C _ _ ?_);refine G (Sr λ_ F=>zm rfl (zm rfl (zm rfl ?_)));(first|refine zi rfl rfl ?_|refine zo rfl rfl ?_);refine zm rfl ?_;refine WL.ev (Ev.tZ rfl rfl) rfl ?_;refine WL.ev (Ev.ixB ((i+j)) rfl rfl oO oO) rfl ?_;refine WL.sJ rfl rfl d oF λd0 k Y=>?_;have a:=a.s1 Y;have d:=k;refine zz (F ?_);refine zR λ_ B=>?_;refine zm rfl ?_;refine WL.ev (Ev.atx (b:=32) rfl rfl (by simp only[IntKind.bits];exact l.1)) rfl ?_;refine za rfl ?_;refine WL.nil (B _ _ _ (H ?_));refine zS λ_ A=>zm rfl ?_;(first|refine zi rfl rfl ?_|refine zo rfl rfl ?_);refine za rfl (zz (A ?_));refine ⟨rfl,(j+1,L.set (i+j) ((f.getD i 0*e.getD j 0+L.getD (i+j) 0+c)%4294967296),(f.getD i 0*e.getD j 0+L.getD (i+j) 0+c)/4294967296),?_,?_,?_⟩
   ·exact SLp
   ·exact ⟨t.step (m.getD i) n oO oO,d,a⟩
   show e.length-(j+1)<e.length-j;omega
  have T:j=e.length:=by omega
  subst T;refine CW.exit ?_;refine O ?_;refine zR λ_ z=>?_;refine zm rfl (zm rfl (zm rfl (zn rfl ?_)));(first|refine zi rfl rfl ?_|refine zo rfl rfl ?_);refine zm rfl ?_;refine WL.ev (Ev.tZ rfl rfl) rfl ?_;rw[Nat.mod_eq_of_lt Z];refine WL.ev (Ev.ixB ((i+(e).length)) rfl rfl oO oO) rfl ?_;refine WL.sJ rfl rfl d oF λc9 k X=>?_;have a:=a.s1 X;have d:=k;refine WL.nil (z _ _ _ (R ?_));refine zS λ_ y=>zm rfl ?_;(first|refine zi rfl rfl ?_|refine zo rfl rfl ?_);refine za rfl (zz (y ?_));refine ⟨rfl,(i+1,L.set (i+e.length) c),?_,?_,?_⟩
  ·exact SLp
  ·exact ⟨h.step oO t,d,a⟩
  show f.length-(i+1)<f.length-i;omega
 have U:i=f.length:=by omega
 subst U;have b3:=h.done;have d8:=h.len;refine CW.exit ?_;refine b0 (Sr λ_ D=>zm rfl ?_);refine WL.call hasF224 rfl rfl (wQ _ _ _ (NU.mJ d h.w oO oO (Nat.le_refl _)) (by have:=bX h.w;omega)) λv w1 h'=>?_;obtain ⟨hN,hC,hF⟩:=h';rw[b3] at hN;have hF:=hF.mono a.size;have a:=a.ta hC;refine za rfl (zz (D ?_));refine zr (zr1 rfl rfl ?_);exact ⟨hN,a,hF⟩
structure KDgs(la lb:List Nat)(w:World)(g:Nat×Nat×Value)(wr:World):Prop where
  lt:g.1<g.2.1
  le:g.2.1<=4294967296
  a:val lb*g.1<=val la
  b:val la<val lb*g.2.1
  nu:NU wr g.2.2 (wd (val lb*g.1))
  fh:Fh w g.2.2
  ch:Chg [] w wr
theorem r2digit_spec(va vb:Value)(j d:List Nat)(w:World)(ha:NU w va j)(hb:NU w vb d)(c8:j.length<=1099511627776)(c7:d.length<=1099511627776)(a5:val j<val d*4294967296):Ret Tryz.prog 256 [va,vb] w λu w'=>∃ x,u = .tuple [.int .u32 ((val j/val d:Nat):Int),x].toArray/\NU w' x (wd (val d*(val j/val d)))/\Chg [] w w'/\Fh w x:=by
 have a7:=ha;have a6:=hb;obtain ⟨⟨b3,b0,rfl,R,b8⟩,c4,c0⟩:=ha;obtain ⟨⟨b2,a9,rfl,Q,b7⟩,c3,b9⟩:=hb;have a:=crf w;refine zE2 Tryz.func256 rfl ?_;refine Sr λ_ a0=>za rfl (za rfl (zz (a0 (Sr λ_ Z=>za rfl (zz (Z (Sr λ_ Y=>za rfl (zz (Y (Sr λ_ X=>za rfl (zz (X (zc λ_ V=>CW.block ?_)))))))))))));refine CW.loop (S:=λg:Nat×Nat×Value=>[(0,.slice b3 j.length b0),(1,.slice b2 d.length a9),(6,.int .u64 (g.1:Int)),(7,.int .u64 (g.2.1:Int)),(8,g.2.2)]) (Inv:=KDgs j d w) (mu:=λg=>g.2.1-g.1) ((0,4294967296,.slice none 0 0)) ?_ ?_ ?_
 ·exact ⟨by decide,Nat.le_refl _,by rw[Nat.mul_zero];exact Nat.zero_le _,a5,by rw[Nat.mul_zero,eJ];exact NU.nil,Fh.nil,a⟩
 ·exact SLp
 rintro ⟨f,t,v0⟩ wr ⟨a3,ht,r,k,c,p,a⟩;dsimp only at a3 ht r k c p a;dsimp only;refine zc λ_ J=>Sr λ_ I=>zm rfl (zm rfl ?_)
 first|refine WL.ev (Ev.bdx rfl rfl oO oO) rfl ?_|refine WL.ev (Ev.cyq rfl rfl oO) rfl ?_
 refine zG rfl rfl (zz (I ?_));refine zy rfl ?_ ?_<;>intro a4<;>try simp only[qs] at a4
 ·have a2:f<(f+t)/2:=by omega
  have a1:(f+t)/2<t:=by omega
  refine zkk (J (CW.block (Sr λ_ H=>zm rfl (zm rfl ?_))))
  first|refine WL.ev (Ev.iX rfl rfl oO) rfl ?_|refine WL.ev (Ev.aaq rfl rfl) rfl ?_
  refine WL.ev (Ev.djj (b:=2) rfl rfl oO (iZ oO).2) rfl ?_;refine za rfl (zz (H (Sr λ_ G=>zm rfl (zm rfl ?_))));refine WL.ev (Ev.tZ rfl rfl) rfl ?_;rw[Nat.mod_eq_of_lt (show (f+t)/2<4294967296 by omega)];refine WL.buildSlice (m:=1) (cs:=[kQ (((f+t)/2))]) oD oD rfl oR rfl λb1 T e=>?_;have h:=e.chg;have o:=e.ge;have O:OB T b1 _ [((f+t)/2)]:=e.at_;have y:=Nat.le_trans a.size o;have a:=a.ta h;have c:=c.q5 h;refine WL.call hasF165 rfl rfl (auj _ _ _ _ _ (a6.q5 a) (NU.mJ (l:=[((f+t)/2)]) O (yX.2 ⟨by omega,awj⟩) oS rfl oO) (by simp only[List.length_cons,List.length_nil];omega)) λU w1 h'=>?_;obtain ⟨i,z,s⟩:=h';rw[cqj _ oO] at i;have s:=s.mono a.size;have a:=a.ta z;have c:=c.q5 z;refine za rfl (zz (G (Sr λ_ F=>zm rfl (zm rfl ?_))));refine WL.call hasF174 rfl rfl (ayq _ _ _ _ _ i (a7.q5 a)) λv w2 h'=>?_;obtain ⟨rfl,z⟩:=h';rw[g6];have a:=a.ta z;have c:=c.q5 z;have i:=i.q5 z;refine zQ rfl rfl (zz (F ?_));refine zy rfl ?_ ?_<;>intro M<;>try simp only[qs] at M
  ·have n:val d*((f+t)/2)<=val j:=bhq.1 M
   refine Sr λ_ D=>zm rfl (za rfl (zz (D (zS λ_ B=>zm rfl (za rfl (zz (B ?_)))))));refine ⟨rfl,(((f+t)/2),t,U),?_,?_,?_⟩
   ·exact SLp
   ·exact ⟨a1,ht,n,k,i,s,a⟩
   show t-((f+t)/2)<t-f;omega
  have n:val j<val d*((f+t)/2):=Nat.lt_of_not_le λq=>by have:=bhq.2 q;omega
  refine zS λ_ A=>zm rfl (za rfl (zz (A ?_)));refine ⟨rfl,(f,((f+t)/2),v0),?_,?_,?_⟩
  ·exact SLp
  ·exact ⟨a2,by dsimp only;omega,r,n,c,p,a⟩
  show ((f+t)/2)-f<t-f;omega
 have et:t=f+1:=by omega
 subst et;have hq:val j/val d=f:=Nat.div_eq_of_lt_le (by rw[Nat.mul_comm];exact r) (by rw[Nat.mul_comm];exact k);refine CW.exit ?_;refine V (Sr λ_ C=>zm rfl ?_);refine WL.ev (Ev.tZ rfl rfl) rfl ?_;rw[Nat.mod_eq_of_lt (show f<4294967296 by omega)];refine zm rfl (za rfl (za rfl (zz (C ?_))));refine zr (zr2 rfl rfl rfl ?_);rw[hq];exact ⟨_,rfl,c,a,p⟩
structure KPts(la:List Nat)(b:Nat)(w:World)(B:Nat)(g:Nat×List Nat×Nat×Value)(wr:World):Prop where
  a:bhx la b g.1 g.2.1 g.2.2.1
  ob:OB wr B 162 g.2.1
  nu:NU wr g.2.2.2 (wd g.2.2.1)
  av:Av B g.2.2.2
  ch:Chg [] w wr
theorem clq(va vb:Value)(d s:List Nat)(w:World)(ha:NU w va d)(hb:NU w vb s)(g9:d.length<=1099511627776)(g5:s.length<=1099511627775)(d7:0<val s):Ret Tryz.prog 231 [va,vb] w λu w'=>∃ x y,u = .tuple [x,y].toArray/\NU w' x (wd (val d/val s))/\NU w' y (wd (val d%val s))/\Chg [] w w':=by
 have h2:=ha;have b7:=hb;obtain ⟨⟨e8,e5,rfl,c1,R⟩,j,f5⟩:=ha;obtain ⟨⟨e7,e4,rfl,c0,f3⟩,T,f4⟩:=hb;have c:=crf w;refine zE2 Tryz.func231 rfl ?_;refine Sr λ_ c9=>za rfl (za rfl (zz (c9 (Sr λ_ c8=>zm rfl (zn rfl ?_)))));refine WL.baj ((d).length) ((d).length) rfl rfl oO oO oO oO oO rfl λG e9 a U C=>?_;have z:=Nat.le_trans c.size C;have c:=c.ta U;refine za rfl (zz (c8 (Sr λ_ c7=>za rfl (zz (c7 (zc λ_ c6=>Sr λ_ c5=>zm rfl (zn rfl ?_)))))))
 first|refine WL.ev (Ev.dX rfl rfl oO) rfl ?_|refine WL.ev (Ev.sub rfl rfl) rfl ?_
 refine za rfl (zz (c5 (CW.block ?_)));refine CW.loop (S:=λg:Nat×List Nat×Nat×Value=>[(0,.slice e8 d.length e5),(1,.slice e7 s.length e4),(6,.slice (some ⟨G,0,none⟩) d.length d.length),(7,g.2.2.2),(8,.int .i64 ((g.1:Int)-1))]) (Inv:=KPts d (val s) w G) (mu:=λg=>g.1) ((d.length,List.replicate d.length 0,0,.slice none 0 0)) ?_ ?_ ?_
 ·exact ⟨bhx.zero d d7,a,by rw[eJ];exact NU.nil,Av.nil,c⟩
 ·exact SLp
 rintro ⟨k,Q,r,vr⟩ wr ⟨H,a,o,d8,c⟩;dsimp only at H a o d8 c;dsimp only;have h0:=H.le;have h5:=H.len;have d2:=H.rl;have C:w.heap.size<=G:=z;refine zc λ_ b2=>Sr λ_ b1=>zm rfl ?_;refine WL.ev (Ev.geq rfl rfl) rfl ?_;refine zz (b1 ?_);refine zy rfl ?_ ?_<;>intro d6<;>try simp only[qs] at d6
 ·have b5:=H.bound j
  have g1:(wd r).length<=s.length:=Nat.le_trans (uX (Nat.le_of_lt d2)) (bX T);have h3:(wd (d.getD (k-1) 0+4294967296*r)).length<=s.length+1:=len_up b5 (vX T);refine zkk (b2 (zc λ_ M=>CW.block (Sr λ_ b0=>zm rfl (zm rfl ?_))));refine WL.ev (Ev.ixR ((k-1)) rfl rfl (R.q5 c) oO oO oT) rfl ?_;refine WL.ev (Ev.load rfl rfl ((R.q5 c).u32 oF)) rfl ?_;have f2:=j.getD ((k-1));refine WL.buildSlice (m:=1) (cs:=[kQ ((d).getD ((k-1)) 0)]) oD oD rfl oR rfl λe6 c2 A=>?_;have p:=A.chg;have B:=A.ge;have b6:OB c2 e6 _ [(d).getD ((k-1)) 0]:=A.at_;have t:=Nat.le_trans c.size B;have c:=c.ta p;have o:=o.q5 p;have Y:=zdd a.lt B;have a:=a.k0 p;have e:=GR.of_OB (lo:=w.heap.size) (X:=[G]) (k:=1) b6 oS oS t oT;rw[show List.take 1 [d.getD (k-1) 0]=[d.getD (k-1) 0] from rfl] at e;refine za rfl (zz (b0 (zc λ_ a9=>?_)));have d0:=o;obtain ⟨⟨ar,cr,rfl,d5,d1⟩,h4,g4⟩:=d0;refine zR λ_ a3=>?_;refine zm rfl (zm rfl ?_);refine WL.c0x (f:=kQ) (lo:=w.heap.size) (X:=[G]) (l:=[d.getD (k-1) 0]) (news:=(wd r)) (by rfl) (λi=>rfl) rfl rfl e (by first|rfl|(simp;done)|(simp;omega)|omega) d1 (by first|omega|exact c.size|exact Nat.le_refl _) (by intro b hb;simp only[List.mem_singleton] at hb;subst hb;exact a.lt) (by simp only[List.length_append,List.length_cons,List.length_nil];omega) (by simp only[List.length_append,List.length_cons,List.length_nil];omega) rfl λg0 f9 b3 F=>?_;have c:=GR.frame e F c (by first|omega|exact Nat.le_refl _);have a:=a.gZ F (e.notin (by first|exact .inl oS|exact .inr oO));have e:=b3;refine za rfl ?_;refine WL.nil (a3 _ _ _ (a9 ?_));refine zc λ_ a8=>?_;have O:val ([d.getD (k-1) 0]++wd r)=(d.getD (k-1) 0+4294967296*r):=by rw[ayx,g6];simp[val]
  refine zR λ_ a2=>?_;refine zm rfl ?_;refine WL.call hasF224 rfl rfl (wQ _ _ _ (e.nu (aoq.2 ⟨yX.2 ⟨j.getD _,awj⟩,W_wd _⟩) (by simp only[List.length_append,List.length_cons,List.length_nil];omega)) (by rw[O];omega)) λc4 w1 J=>?_;obtain ⟨h,n,d9⟩:=J;rw[O] at h;have e2:=d9.av a.lt;have c:=c.ta n;have a:=a.k0 n;refine za rfl ?_;refine WL.nil (a2 _ _ _ (a8 ?_));refine Sr λ_ a7=>zm rfl (zm rfl ?_);refine WL.call hasF174 rfl rfl (ayq _ _ _ _ _ h (b7.q5 c)) λv w2 J=>?_;obtain ⟨rfl,n⟩:=J;rw[g6];have c:=c.ta n;have a:=a.k0 n;have h:=h.q5 n;refine WL.ev (Ev.geq rfl rfl) rfl ?_;refine zz (a7 ?_);refine zy rfl ?_ ?_<;>intro b4<;>try simp only[qs] at b4
  ·have h1:val s<=(d.getD (k-1) 0+4294967296*r):=ddx.1 b4
   refine Sr λ_ a6=>zm rfl (zm rfl ?_);refine WL.call hasF256 rfl rfl (r2digit_spec _ _ _ _ _ h (b7.q5 c) oO oO (by rw[g6];exact b5)) λv w3 J=>?_;obtain ⟨x,rfl,I,n,e1⟩:=J;rw[g6] at I ⊢;have h6:=e1.av a.lt;have c:=c.ta n;have a:=a.k0 n;have h:=h.q5 n;refine zm rfl (zx rfl rfl (zx rfl rfl (za rfl (za rfl (zz (a6 (Sr λ_ a5=>zm rfl (zm rfl (zm rfl ?_)))))))));refine WL.ev (Ev.ixB ((k-1)) rfl rfl oO oO) rfl ?_;refine WL.sJ rfl rfl a oF λf8 V D=>?_;have c:=c.s1 D;have h:=h.keepOB a D oA;have I:=I.keepOB a D oA;have a:=V;refine zz (a5 ?_);refine zR λ_ a1=>?_;refine zm rfl (zm rfl ?_);refine WL.call hasF175 rfl rfl (brq _ _ _ _ _ h I oO (by rw[g6,g6];exact Nat.mul_div_le _ _)) λc3 w4 J=>?_;obtain ⟨b9,n,e0⟩:=J;rw[g6,g6] at b9;have e3:=e0.av a.lt;have c:=c.ta n;have a:=a.k0 n;refine za rfl ?_;refine WL.nil (a1 _ _ _ (M ?_));refine zS λ_ a0=>zm rfl ?_
   first|refine WL.ev (Ev.dX rfl rfl oO) rfl ?_|refine WL.ev (Ev.sub rfl rfl) rfl ?_
   refine za rfl (zz (a0 ?_));refine ⟨rfl,(k-1,Q.set (k-1) ((d.getD (k-1) 0+4294967296*r)/val s),(d.getD (k-1) 0+4294967296*r)-val s*((d.getD (k-1) 0+4294967296*r)/val s),c3),?_,?_,?_⟩
   ·exact SLp
   ·exact ⟨H.step j oO,a,b9,e3,c⟩
   show k-1<k;omega
  have d3:(d.getD (k-1) 0+4294967296*r)<val s:=Nat.lt_of_not_le λq=>by have:=ddx.2 q;omega
  refine zkk (M (zS λ_ Z=>zm rfl ?_))
  first|refine WL.ev (Ev.dX rfl rfl oO) rfl ?_|refine WL.ev (Ev.sub rfl rfl) rfl ?_
  refine za rfl (zz (Z ?_));refine ⟨rfl,(k-1,Q,(d.getD (k-1) 0+4294967296*r),c4),?_,?_,?_⟩
  ·exact SLp
  ·exact ⟨H.stay j oO d3,a,h,e2,c⟩
  show k-1<k;omega
 have d4:k=0:=by omega
 subst d4;obtain ⟨hq,hr⟩:=H.done;subst hr;refine CW.exit ?_;refine c6 (Sr λ_ a4=>zm rfl ?_);refine WL.call hasF224 rfl rfl (wQ _ _ _ (NU.mJ a H.w oO oO (Nat.le_refl _)) (by have:=bX H.w;omega)) λv w5 J=>?_;obtain ⟨hN,n,hF⟩:=J;rw[hq] at hN;have c:=c.ta n;have o:=o.q5 n;refine zm rfl (za rfl (za rfl (zz (a4 ?_))));refine zr (zr2 rfl rfl rfl ?_);exact ⟨_,_,rfl,hN,o,c⟩
theorem shift_drop{l:List Nat}{q:Nat}(h:W l)(a:q/32<=l.length):val (l.drop (q/32))/2^(q%32)=val l/2^q:=by
  rw[cjx h _ a,Nat.div_div_eq_div_mul,<- Nat.pow_add,show 32*(q/32)+q%32=q by omega]
theorem shift_out{l:List Nat}{q:Nat}(h:W l)(a:l.length<=q/32):val l/2^q=0:=by
  refine Nat.div_eq_of_lt (Nat.lt_of_lt_of_le (vX h) (Nat.pow_le_pow_right oD oO))
theorem Ev.negN{P:Program}{s:Sl}{w:World}{ty t:TypeId}{x:Operand}{q:Nat}(a:g8 s x=some (.int .i64 (-(q:Int))))(h:q<=9223372036854775807):Ev P s (.unOp .neg t x) ty w (.int .i64 (q:Int)) w:=by
  have:=Ev.bnq (P:=P) (w:=w) (ty:=ty) (t:=t) a oO
  rwa [show - -(q:Int)=(q:Int) by omega] at this
theorem Ev.shlOne{P:Program}{s:Sl}{w:World}{ty t t':TypeId}{x y:Operand}{b:IntKind}{r:Nat}(d:g8 s x=some (.int .u32 1))(c:g8 s y=some (.int b (r:Int)))(h:2^r<4294967296):Ev P s (.binOp .shl t x y t') ty w (.int .u32 ((2^r:Nat):Int)) w:=by
  have:=Ev.shlU32 (P:=P) (w:=w) (ty:=ty) (t:=t) (t':=t') (a:=1) d c
  rwa [Nat.one_mul,Nat.mod_eq_of_lt h] at this
theorem pow_lt32{r:Nat}(h:r<32):2^r<4294967296:=by
  have:2^r<=2^31:=Nat.pow_le_pow_right oD oO
  omega
theorem csj(v:Value)(l:List Nat)(w:World)(h:NU w v l)(q:Nat)(a6:0<q)(hq:q<=1099511627776)(a7:l.length<=1099511627776):Ret Tryz.prog 172 [v,.int .i64 (-(q:Int))] w λu w'=>NU w' u (wd (val l/2^q))/\Chg [] w w':=by
 have a5:=h;obtain ⟨⟨al,cl,rfl,X,T⟩,A,a8⟩:=h;have a:=crf w;have d:=pow_lt32 (r:=q%32) (Nat.mod_lt _ oD);refine zE2 Tryz.func172 rfl ?_;refine Sr λ_ R=>za rfl (zz (R (zc λ_ a4=>Sr λ_ Q=>zm rfl (zL rfl rfl (zz (Q ?_))))));refine zy rfl ?_ ?_<;>intro Z<;>try simp only[qs] at Z
 ·refine Sr λ_ O=>zm rfl ?_
  refine WL.ev (Ev.bnq rfl oO) rfl ?_;rw[show - -(q:Int)=(q:Int) by omega];refine WL.ev (Ev.cax (b:=32) rfl rfl oO (by simp only[IntKind.max,IntKind.signed,IntKind.bits];omega) oO) rfl ?_;rw[show (q:Int)/32=((q/32:Nat):Int) by omega];refine za rfl (zz (O (zc λ_ M=>?_)));refine CW.oJ 21 (decide (l.length<=q/32)) ?_ ?_
  ·refine zS λ_ D=>zm rfl (zm rfl (zn rfl ?_));refine WL.ev (Ev.geq rfl rfl) rfl ?_;refine zm rfl ?_;refine zb ?_ ?_<;>intro U<;>try simp only[qs] at U
   ·refine zv rfl (zv rfl (zt rfl rfl (zz (D ?_))));refine ⟨rfl,rfl,q9.g7 rfl ?_ ?_⟩
    ·first|(simp;omega)|(refine decide_eq_decide.2 ?_;omega)
    exact SMg
   refine zw rfl (zm rfl (zw rfl (zL rfl rfl (ze rfl rfl (zz (D ?_))))));refine ⟨rfl,rfl,q9.g7 rfl ?_ ?_⟩
   ·first|(simp;omega)|(refine decide_eq_decide.2 ?_;omega)
   exact SMg
  refine zy rfl ?_ ?_<;>intro Y<;>try simp only[qs] at Y
  ·refine Sr λ_ H=>za rfl (zz (H ?_));refine zr (zr1 rfl rfl ?_);rw[shift_out A oO,eJ];exact ⟨NU.nil,a⟩
  have I:=shift_drop A (q:=q) oO;have k:NU w (.slice (cutAt al (q/32) cl 1) (l.length-q/32) (cl-q/32)) (l.drop (q/32)):=NU.acq (by rw[List.map_drop];exact T.cut _ _ oT oT) (A.drop _) oT oS oO;have a2:(l.drop (q/32)).length<=1099511627776:=by simp;omega
  refine zkk (M (zc λ_ t=>?_));refine CW.bZ 15 rfl cJ λa1 s c V=>?_;have a:=a.ta V;refine wh 0 rfl c (eM rfl) (wh 1 rfl c (eM rfl) (wh 2 rfl c (λ_ _=>Ev.bqq ((q/32)) rfl rfl oO oO) (wh 4 rfl c (eM rfl) (wh 5 rfl c (λ_ _=>Ev.negN rfl oO) (wh 6 rfl c (λ_ _=>Ev.dfx (b:=32) rfl rfl oO) (wh 7 rfl c (λ_ _=>Ev.shlOne rfl rfl d) ?_))))));refine WH.c2j 3 8 oR ?_ ?_
  ·refine ahj.call 3 rfl hasF224 rfl rfl (wQ _ _ _ (k.q5 a) (by have:=bX k.hw;omega)) λv w1 B=>?_;obtain ⟨p,n,J⟩:=B;have a:=a.ta n;have c:=c.trans n;refine ⟨c,?_⟩;refine WH.bgq 8 rfl oR c (m:=1) (cs:=[kQ (2^(q%32))]) oD oD rfl oR rfl λC z e c=>?_;have f:=e.chg;have i:=e.ge;have g:OB z C _ [2^(q%32)]:=e.at_;have j:=Nat.le_trans a.size i;have a:=a.ta f;have p:=p.q5 f;refine WH.k6 9 rfl oR hasF231 rfl rfl (clq _ _ _ _ _ p (NU.mJ g (yX.2 ⟨d,awj⟩) oS rfl oO) (by have:=bX k.hw;omega) oS (by rw[cqj _ d];exact Nat.two_pow_pos _)) λv w2 B=>?_;obtain ⟨x,y,rfl,o,a0,n⟩:=B;rw[g6,cqj _ d,I] at o;have a:=a.ta n;have c:=c.trans n;refine ⟨c,?_⟩;refine wh 10 rfl c (eM rfl) (wh 11 rfl c (eX rfl rfl) (wh 12 rfl c (eX rfl rfl) (wh 13 rfl c (eA rfl) (wh 14 rfl c (eA rfl) ?_))));refine WH.done oR (s _ _ _ ?_);refine t (Sr λ_ G=>zm rfl (za rfl (zz (G ?_))));refine zr (zr1 rfl rfl ?_);exact ⟨o,a⟩
  refine ahj.buildSlice 8 rfl c (m:=1) (cs:=[kQ (2^(q%32))]) oD oD rfl oR rfl λC z e c=>?_;have f:=e.chg;have i:=e.ge;have g:OB z C _ [2^(q%32)]:=e.at_;have j:=Nat.le_trans a.size i;have a:=a.ta f;refine WH.k6 3 rfl oR hasF224 rfl rfl (wQ _ _ _ (k.q5 a) (by have:=bX k.hw;omega)) λv w3 B=>?_;obtain ⟨p,n,J⟩:=B;have a:=a.ta n;have g:=g.k0 n;have c:=c.trans n;refine ⟨c,?_⟩;refine WH.k6 9 rfl oR hasF231 rfl rfl (clq _ _ _ _ _ p (NU.mJ g (yX.2 ⟨d,awj⟩) oS rfl oO) (by have:=bX k.hw;omega) oS (by rw[cqj _ d];exact Nat.two_pow_pos _)) λv w4 B=>?_;obtain ⟨x,y,rfl,o,a0,n⟩:=B;rw[g6,cqj _ d,I] at o;have a:=a.ta n;have c:=c.trans n;refine ⟨c,?_⟩;refine wh 10 rfl c (eM rfl) (wh 11 rfl c (eX rfl rfl) (wh 12 rfl c (eX rfl rfl) (wh 13 rfl c (eA rfl) (wh 14 rfl c (eA rfl) ?_))));refine WH.done oR (s _ _ _ ?_);refine t (Sr λ_ F=>zm rfl (za rfl (zz (F ?_))));refine zr (zr1 rfl rfl ?_);exact ⟨o,a⟩
 exfalso;omega
theorem up_pow(n q:Nat):n*2^(32*(q/32))*2^(q%32)=n*2^q:=by
  rw[Nat.mul_assoc,<- Nat.pow_add,show 32*(q/32)+q%32=q by omega]
theorem zZ(v:Value)(l:List Nat)(w:World)(h:NU w v l)(q:Nat)(hq:q<=1099511627776)(Y:l.length<=1099511627776):Ret Tryz.prog 172 [v,.int .i64 (q:Int)] w λu w'=>NU w' u (wd (val l*2^q))/\Chg [] w w'/\Fh w u:=by
 obtain ⟨⟨al,cl,rfl,J,I⟩,O,Z⟩:=h;have c:=crf w;have e:=pow_lt32 (r:=q%32) (Nat.mod_lt _ oD);refine zE2 Tryz.func172 rfl ?_;refine Sr λ_ H=>za rfl (zz (H (zc λ_ G=>Sr λ_ F=>zm rfl (zL rfl rfl (zz (F ?_))))));refine zy rfl ?_ ?_<;>intro M<;>try simp only[qs] at M
 ·exfalso;omega
 refine zkk (G (Sr λ_ D=>zm rfl ?_));refine WL.ev (Ev.cax (b:=32) rfl rfl oO (by simp only[IntKind.max,IntKind.signed,IntKind.bits];omega) oO) rfl ?_;rw[show (q:Int)/32=((q/32:Nat):Int) by omega];refine WL.baj ((q/32)) ((q/32)) rfl rfl oO oO oO oO oO rfl λa2 R A p o=>?_;have d:=Nat.le_trans c.size o;have c:=c.ta p;have a:=GR.of_OB (lo:=w.heap.size) (X:=[]) (k:=q/32) A oS oT d oS;rw[List.take_replicate,Nat.min_self,List.length_replicate] at a;refine za rfl (zz (D (Sr λ_ C=>zm rfl (zm rfl ?_))));refine WL.c0x (f:=kQ) (lo:=w.heap.size) (X:=[]) (l:=(List.replicate (q/32) 0)) (news:=l) (by rfl) (λi=>rfl) rfl rfl a (by first|rfl|(simp;done)|(simp;omega)|omega) (I.q5 c) (by first|omega|exact c.size|exact Nat.le_refl _) oS (by simp only[List.length_replicate];omega) (by simp only[List.length_replicate];omega) rfl λV U y s=>?_;have c:=GR.frame a s c (by first|omega|exact Nat.le_refl _);have a:=y;refine za rfl (zz (C (Sr λ_ x=>zm rfl (zm rfl ?_))));refine WL.ev (Ev.dfx (b:=32) rfl rfl oO) rfl ?_;refine WL.ev (Ev.shlOne rfl rfl e) rfl ?_;refine WL.buildSlice (m:=1) (cs:=[kQ (2^(q%32))]) oD oD rfl oR rfl λQ B g=>?_;have j:=g.chg;have n:=g.ge;have z:OB B Q _ [2^(q%32)]:=g.at_;have t:=Nat.le_trans c.size n;have c:=c.ta j;have a:=a.q5 j;refine WL.call hasF165 rfl rfl (auj _ _ _ _ _ (a.nu (aoq.2 ⟨oZ _,O⟩) (by simp only[List.length_append,List.length_replicate];omega)) (NU.mJ (l:=[2^(q%32)]) z (yX.2 ⟨e,awj⟩) oS rfl oO) (by simp only[List.length_append,List.length_replicate,List.length_cons,List.length_nil];omega)) λv w1 h'=>?_;obtain ⟨T,hC,hF⟩:=h';rw[val_zeros,cqj _ e,up_pow] at T;have hF:=hF.mono c.size;have c:=c.ta hC;refine za rfl (zz (x ?_));refine zr (zr1 rfl rfl ?_);exact ⟨T,c,hF⟩
def FO(w:World)(u:Value)(x:Option Dy):Prop:=(∃ r d,x=some d/\u = .tuple [.agg [.bool d.neg,r,.int .i64 d.e].toArray,.bool true].toArray/\NU w r (wd d.m))\/(x=none/\u = .tuple [.agg [.bool false,.slice none 0 0,.int .i64 0].toArray,.bool false].toArray)
theorem c1q(v:Value)(l:List Nat)(q:Nat)(w:World)(h:NU w v l)(c:q<=1099511627776)(a:l.length<=1099511627776):Ret Tryz.prog 172 [v,.int .i64 (-(q:Int))] w λu w'=>NU w' u (wd (val l/2^q))/\Chg [] w w':=by
  rcases Nat.eq_zero_or_pos q with rfl|f
  · rw[show (-((0:Nat):Int))=((0:Nat):Int) by simp]
    have:=zZ v l w h 0 oO a;refine Ret.mono this λu w' d=>?_;obtain ⟨b,e,_⟩:=d;rw[Nat.pow_zero,Nat.mul_one] at b;exact ⟨by rw[Nat.pow_zero,Nat.div_one];exact b,e⟩
  exact csj v l w h q f c a
theorem a1j(neg:Bool)(v:Value)(l:List Nat)(e:Int)(w:World)(h:NU w v l)(he : -9223372036854775808<=e/\e<=9223372036854775807)(c3:l.length<=34359738368):Ret Tryz.prog 187 [.bool neg,v,.int .i64 e] w λu w'=>FO w' u (cQ neg (val l) e)/\Chg [] w w':=by
 obtain ⟨A,r⟩ : ∃ A,A=wd (val l):=⟨_,rfl⟩;have o:val A=val l:=by rw[r];exact g6 _
 have b0:=bX h.hw;rw[<- r] at b0;have a:=crf w;refine zE3 Tryz.func187 rfl ?_;refine Sr λ_ Z=>?_;refine zAh rfl rfl a λb6 b8 c b2 b1 H a=>?_;refine za rfl (zz (Z (Sr λ_ Y=>zm rfl ?_)));refine WL.call hasF224 rfl rfl (wQ _ _ _ (h.q5 a) (by rw[<- r];omega)) λv w1 R=>?_;obtain ⟨i,n,c9⟩:=R;rw[<- r] at i;have Q:=i;obtain ⟨⟨a1,c1,rfl,a7,c0⟩,c8,c5⟩:=Q;have a:=a.ta n;have c:=c.k0 n;refine za rfl (zz (Y (zc λ_ X=>Sr λ_ V=>zm rfl (zn rfl (zq rfl rfl (zz (V ?_)))))));refine zy rfl ?_ ?_<;>intro p<;>try simp only[qs] at p
 ·refine Sr λ_ U=>?_
  refine WL.ev (Ev.build (vs:=_) (cs:=[_,_,_]) rfl rfl) rfl ?_;refine zss rfl rfl ao c rfl λb7 b M=>?_;(try simp only[qt] at b);have a:=a.s1 M;have c:=b;refine za rfl (zz (U ?_));refine zr (k8.gJ rfl (aX.cell rfl (c.fX rfl rfl)) (aX.tmp rfl) ?_);have a0:val l=0:=by rw[<- o,List.length_eq_zero_iff.1 (show A.length=0 by omega)];rfl
  rw[a0,jJ];exact ⟨.inl ⟨_,_,rfl,rfl,by rw[show Dy.zero.m=0 from rfl,eJ];exact NU.nil⟩,a⟩
 have g:val l≠0:=λe0=>by rw[e0,eJ] at r;rw[r] at p;exact p rfl
 obtain ⟨q,s⟩ : ∃ q,q=tz (val l):=⟨_,rfl⟩;have a3:=yJ g;have c6:bl (val l)<=32*A.length:=by rw[bbj,<- r];exact Nat.le_refl _
 rw[<- s] at a3;refine zkk (X (Sr λ_ G=>zm rfl ?_));refine WL.call hasF238 rfl rfl (r2Low_spec _ _ _ i oO) λv w2 R=>?_;obtain ⟨rfl,rfl⟩:=R;rw[o,<- s];refine za rfl (zz (G (zc λ_ F=>?_)));refine CW.oJ 31 (decide ((1048576<e\/1048576<e+(q:Int))\/e+(q:Int) < -1048576)) ?_ ?_
 ·refine zS λ_ f=>zm rfl (zG rfl rfl (zm rfl ?_));refine zb ?_ ?_<;>intro a5<;>try simp only[qs] at a5
  ·refine zv rfl (zv rfl (zv rfl (zv rfl (zt rfl rfl (zm rfl (zv rfl (zv rfl (zv rfl (zv rfl (zt rfl rfl (zz (f ?_))))))))))));refine ⟨rfl,rfl,q9.g7 rfl ?_ ?_⟩
   ·first|(simp;omega)|(simp_all;done)|(refine decide_eq_decide.2 ?_;omega)
   exact SMg
  refine zw rfl (zm rfl (zw rfl (zm rfl (zw rfl ?_))));(first|refine zi rfl rfl ?_|refine zo rfl rfl ?_);refine zw rfl (zG rfl rfl (ze rfl rfl (zm rfl ?_)));refine zb ?_ ?_<;>intro a4<;>try simp only[qs] at a4
  ·refine zv rfl (zv rfl (zv rfl (zv rfl (zt rfl rfl (zz (f ?_))))));refine ⟨rfl,rfl,q9.g7 rfl ?_ ?_⟩
   ·first|(simp;omega)|(simp_all;done)|(refine decide_eq_decide.2 ?_;omega)
   exact SMg
  refine zw rfl (zm rfl (zw rfl (zm rfl (zw rfl ?_))));(first|refine zi rfl rfl ?_|refine zo rfl rfl ?_);refine zw rfl (zL rfl rfl (ze rfl rfl (zz (f ?_))));refine ⟨rfl,rfl,q9.g7 rfl ?_ ?_⟩
  ·first|(simp;omega)|(simp_all;done)|(refine decide_eq_decide.2 ?_;omega)
  exact SMg
 refine zy rfl ?_ ?_<;>intro a9<;>try simp only[qs] at a9
 ·refine Sr λ_ D=>?_
  refine WL.ev (Ev.build (vs:=_) (cs:=[_,_,_]) rfl rfl) rfl ?_;refine zss rfl rfl ao c rfl λb5 b J=>?_;(try simp only[qt] at b);have a:=a.s1 J;have c:=b;refine za rfl (zz (D ?_));refine zr (k8.gJ rfl (aX.cell rfl (c.fX rfl rfl)) (aX.tmp rfl) ?_);rw[bsx g (by rw[<- s];omega)];exact ⟨.inr ⟨rfl,rfl⟩,a⟩
 refine zkk (F (Sr λ_ C=>zm rfl (zm rfl ?_)));refine WL.ev (Ev.bnq rfl oO) rfl ?_;refine WL.call hasF172 rfl rfl (c1q _ _ q _ i oO oO) λv w3 R=>?_;obtain ⟨d,k⟩:=R;rw[o] at d;obtain ⟨B,T⟩ : ∃ B,B=wd (val l/2^q):=⟨_,rfl⟩;rw[<- T] at d;have O:=d;obtain ⟨⟨a2,c2,rfl,a6,b9⟩,c7,c4⟩:=O;have a:=a.ta k;have c:=c.k0 k;refine za rfl (zz (C (zc λ_ z=>Sr λ_ y=>zm rfl (zn rfl (zG rfl rfl (zz (y ?_)))))));refine zy rfl ?_ ?_<;>intro a8<;>try simp only[qs] at a8
 ·refine Sr λ_ x=>?_
  refine WL.ev (Ev.build (vs:=_) (cs:=[_,_,_]) rfl rfl) rfl ?_;refine zss rfl rfl ao c rfl λb4 b I=>?_;(try simp only[qt] at b);have a:=a.s1 I;have c:=b;refine za rfl (zz (x ?_));refine zr (k8.gJ rfl (aX.cell rfl (c.fX rfl rfl)) (aX.tmp rfl) ?_);rw[bsx g (by rw[<- s,<- T];omega)];exact ⟨.inr ⟨rfl,rfl⟩,a⟩
 refine zkk (z (Sr λ_ t=>zm rfl (zm rfl (zm rfl (zm rfl ?_)))));(first|refine zi rfl rfl ?_|refine zo rfl rfl ?_);refine WL.ev (Ev.build (vs:=_) (cs:=[_,_,_]) rfl rfl) rfl ?_;refine zss rfl rfl ao c rfl λb3 b j=>?_;(try simp only[qt] at b);have a:=a.s1 j;have d:=d.q8 c j an;have c:=b;refine za rfl (zz (t ?_));refine zr (k8.gJ rfl (aX.cell rfl (c.fX rfl rfl)) (aX.tmp rfl) ?_);rw[sZ g (by rw[<- s,<- T];omega),<- s];refine ⟨.inl ⟨_,_,rfl,rfl,?_⟩,a⟩;simp only;rw[<- T];exact d
theorem a1q(neg:Bool)(v:Value)(l:List Nat)(e:Int)(w:World)(h:NU w v l)(X : -9223372036854775808<=e/\e<=9223372036854775807)(H:l.length<=34359738368):Ret Tryz.prog 164 [.bool neg,v,.int .i64 e] w λu w'=>DR w' u (cQ neg (val l) e)/\Chg [] w w':=by
 have b:=crf w;refine zE3 Tryz.func164 rfl ?_;refine Sr λ_ G=>?_;refine zAh rfl rfl b λb6 U a z M x b=>?_;have h:=h.q5 z;refine za rfl (zz (G (Sr λ_ r=>zm rfl (zm rfl (zm rfl ?_)))));refine WL.call hasF187 rfl rfl (a1j neg v l e _ h X H) λv w1 Y=>?_;obtain ⟨I,A⟩:=Y;have b:=b.ta A;have a:=a.k0 A;rcases I with ⟨V,Z,q,rfl,c⟩|⟨q,rfl⟩
 ·refine zm rfl (zx rfl rfl (zx rfl rfl ?_));refine zAh rfl rfl b λb8 B i f k j b=>?_;have c:=c.q5 f;have n:=zdd a.lt k;have a:=a.k0 f;refine zss rfl rfl ao i rfl λT g m=>?_;(try simp only[qt] at g);have b:=b.s1 m;have a:=a.kq m;have c:=c.q8 i m an;have i:=g;refine za rfl (zz (r (zc λ_ F=>Sr λ_ D=>zm rfl (zT rfl (zz (D ?_))))));refine CW.oX rfl ?_;refine zkk (F (Sr λ_ C=>zg i rfl ?_));refine zss rfl rfl ao a rfl λR d p=>?_;(try simp only[qt] at d);have b:=b.s1 p;have c:=c.q8 a p an;have a:=d;refine za rfl (zz (C ?_));refine zr (k8.gJ rfl (aX.cell rfl (a.fX rfl rfl)) (aX.tmp rfl) ?_);exact ⟨.inl ⟨V,Z,q,rfl,c⟩,b⟩
 refine zm rfl (zx rfl rfl (zx rfl rfl ?_));refine zAh rfl rfl b λb8 B i f k j b=>?_;have n:=zdd a.lt k;have a:=a.k0 f;refine zss rfl rfl ao i rfl λQ g o=>?_;(try simp only[qt] at g);have b:=b.s1 o;have a:=a.kq o;refine za rfl (zz (r (zc λ_ J=>Sr λ_ t=>zm rfl (zT rfl (zz (t ?_))))));refine CW.nZ rfl ?_;refine Sr λ_ s=>?_;refine WL.ev (Ev.build (vs:=_) (cs:=[_,_,_]) rfl rfl) rfl ?_;refine zss rfl rfl ao a rfl λO d y=>?_;(try simp only[qt] at d);have b:=b.s1 y;have a:=d;refine za rfl (zz (s ?_));refine zr (k8.gJ rfl (aX.cell rfl (a.fX rfl rfl)) (aX.tmp rfl) ?_);exact ⟨.inr ⟨q,rfl⟩,b⟩
theorem rQ(x:Bool)(t:Value)(r:List Nat)(q:Int)(w:World)(j:NU w t r)(A : -9223372036854775808<=q/\q<=9223372036854775807)(z:r.length<=34359738368):Ret Tryz.prog 154 [.agg [.bool x,t,.int .i64 q].toArray] w λu w'=>FO w' u (cQ x (val r) q)/\Chg [] w w':=by
 have a:=crf w;have J:=j.one;refine zE1 Tryz.func154 rfl ?_;refine Sr λ_ y=>?_;refine zBh rfl rfl rfl a λT H d o D m a=>?_;have j:=j.q5 o;refine zAh rfl rfl a λR G b g n l a=>?_;have j:=j.q5 g;have s:=zdd d.lt n;have d:=d.k0 g;refine za rfl (zz (y (Sr λ_ k=>zf rfl (zl d rfl rfl (zf rfl (zl d rfl rfl (zf rfl (zl d rfl rfl ?_))))))));refine WL.call hasF187 rfl rfl (a1j x t r q _ j A z) λv Q M=>?_;obtain ⟨B,p⟩:=M;have a:=a.ta p;have b:=b.k0 p;rcases B with ⟨I,O,h,rfl,e⟩|⟨h,rfl⟩
 ·refine zx rfl rfl (zx rfl rfl ?_);refine zss rfl rfl ao b rfl λF c f=>?_;(try simp only[qt] at c);have a:=a.s1 f;have e:=e.q8 b f an;have b:=c;refine za rfl (zz (k ?_));refine zr (k8.gJ rfl (aX.cell rfl (b.fX rfl rfl)) (aX.tmp rfl) ?_);exact ⟨.inl ⟨I,O,h,rfl,e⟩,a⟩
 refine zx rfl rfl (zx rfl rfl ?_);refine zss rfl rfl ao b rfl λC c i=>?_;(try simp only[qt] at c);have a:=a.s1 i;have b:=c;refine za rfl (zz (k ?_));refine zr (k8.gJ rfl (aX.cell rfl (b.fX rfl rfl)) (aX.tmp rfl) ?_);exact ⟨.inr ⟨h,rfl⟩,a⟩
theorem byq(w:World):Ret Tryz.prog 162 [] w λu w'=>u = .agg [.int .i64 53,.int .i64 (-1074),.int .u64 9218868437227405312].toArray/\Chg [] w w':=by
 have a:=crf w;refine zE0 Tryz.func162 rfl ?_;refine Sr λ_ i=>?_;refine WL.iQ (l:=[.int .i64 0,.int .i64 0,.int .u64 0]) rfl rfl λm k d g f=>?_;have e:=Nat.le_trans a.size f;have a:=a.ta g;refine zz (i (Sr λ_ h=>?_));refine WL.ev (Ev.build (vs:=_) (cs:=[_,_,_]) rfl rfl) rfl ?_;refine zss rfl rfl ao d rfl λj b c=>?_;(try simp only[qt] at b);have a:=a.s1 c;have d:=b;refine zz (h ?_);refine zr (k8.qJ rfl (aX.cell rfl (d.fX rfl rfl)) ?_);exact ⟨rfl,a⟩
def anj(k:Nat):Nat:=if k/4503599627370496=0 then k%4503599627370496 else 4503599627370496+k%4503599627370496
def pZ(k:Nat):Int:=if k/4503599627370496=0 then -1074 else -1074+((k/4503599627370496:Nat):Int)-1
theorem b5x(k:Nat):anj k<9007199254740992:=by unfold anj;split<;>omega
theorem a0q(k:Nat)(h:k<18446744073709551616): -1074<=pZ k/\pZ k<=3100:=by unfold pZ;split<;>omega
def dtj(neg:Bool)(k:Nat):Option Dy:=if 9218868437227405312<=k then none else cQ neg (anj k) (pZ k)
theorem qZ(k:Nat)(w:World)(R:k<18446744073709551616):Ret Tryz.prog 226 [.agg [.int .i64 53,.int .i64 (-1074),.int .u64 9218868437227405312].toArray,.int .u64 (k:Int)] w λu w'=>(∃ r,u = .tuple [r,.int .i64 (pZ k)].toArray/\NU w' r (wd (anj k)))/\Chg [] w w':=by
 have c:=crf w;refine zE2 Tryz.func226 rfl ?_;refine Sr λ_ A=>?_;refine zBh rfl rfl rfl c λT M f J I p c=>?_;refine za rfl (za rfl (zz (A (Sr λ_ z=>zf rfl (zl f rfl rfl ?_)))));refine WL.ev (Ev.dX rfl rfl oO) rfl ?_;rw[show (53:Int)-1=((52:Nat):Int) by omega];refine WL.ev (Ev.dZ rfl rfl (iZ oO)) rfl ?_;refine WL.ev (Ev.apx (a:=1) (b:=52) rfl rfl) rfl ?_;rw[show 1*2^52%18446744073709551616=4503599627370496 from rfl];refine za rfl (zz (z (Sr λ_ y=>zm rfl (zm rfl ?_))));refine WL.ev (Ev.djj (b:=4503599627370496) rfl rfl oO (iZ oO).2) rfl ?_;refine za rfl (zz (y (Sr λ_ x=>zm rfl (zm rfl ?_))));refine WL.ev (Ev.dfx (b:=4503599627370496) rfl rfl oO) rfl ?_;refine za rfl (zz (x (zc λ_ t=>Sr λ_ n=>zm rfl (zq rfl rfl (zz (n ?_))))));refine zy rfl ?_ ?_<;>intro B<;>try simp only[qs] at B
 ·have o:k/4503599627370496=0:=by omega
  have F:anj k=k%4503599627370496:=by unfold anj;rw[if_pos o]
  have D:pZ k = -1074:=by unfold pZ;rw[if_pos o]
  refine zc λ_ m=>?_;refine CW.bZ 6 rfl cJ λH j d g=>?_;have c:=c.ta g;have f:=f.k0 g;have e:=f;refine wh 0 rfl d (eM rfl) (wh 2 rfl d (eF rfl) (wh 3 rfl d (λ_ h=>Ev.load rfl rfl ((e.q5 h).at_ rfl)) ?_));refine WH.k6 1 rfl oR hasF159 rfl rfl (blj (k%4503599627370496) _ oO) λv Q C=>?_;obtain ⟨q,s,hF⟩:=C;rw[<- F] at q;have c:=c.ta s;have d:=d.trans s;refine ⟨d,?_⟩;refine wh 4 rfl d (eA rfl) (wh 5 rfl d (eA rfl) ?_);refine WH.done oR (j _ _ _ ?_);refine m ?_;refine zr (zr2 rfl rfl rfl ?_);rw[D];exact ⟨⟨_,rfl,q⟩,c⟩
 have o:k/4503599627370496≠0:=by omega
 have F:anj k=4503599627370496+k%4503599627370496:=by unfold anj;rw[if_neg o]
 have D:pZ k = -1074+((k/4503599627370496:Nat):Int)-1:=by unfold pZ;rw[if_neg o]
 refine zkk (t (zc λ_ l=>?_));refine CW.bZ 12 rfl cJ λG i d g=>?_;have c:=c.ta g;have f:=f.k0 g;have e:=f;refine wh 0 rfl d (eM rfl) (wh 1 rfl d (eM rfl) (wh 2 rfl d (λ_ _=>Ev.iX rfl rfl oO) (wh 4 rfl d (eF rfl) (wh 5 rfl d (λ_ h=>Ev.load rfl rfl ((e.q5 h).at_ rfl)) (wh 6 rfl d (eM rfl) (wh 7 rfl d (λ_ _=>Ev.dZ rfl rfl (tQ oO)) (wh 8 rfl d (λ_ _=>Ev.jZ rfl rfl oO) (wh 9 rfl d (λ_ _=>Ev.dX rfl rfl oO) ?_))))))));refine WH.k6 3 rfl oR hasF159 rfl rfl (blj (4503599627370496+k%4503599627370496) _ oO) λv O C=>?_;obtain ⟨q,s,hF⟩:=C;rw[<- F] at q;have c:=c.ta s;have d:=d.trans s;refine ⟨d,?_⟩;refine wh 10 rfl d (eA rfl) (wh 11 rfl d (eA rfl) ?_);refine WH.done oR (i _ _ _ ?_);refine l ?_;refine zr (zr2 rfl rfl rfl ?_);rw[D];exact ⟨⟨_,rfl,q⟩,c⟩
theorem r3Bits_spec(neg:Bool)(k:Nat)(w:World)(M:k<18446744073709551616):Ret Tryz.prog 163 [.agg [.int .i64 53,.int .i64 (-1074),.int .u64 9218868437227405312].toArray,.bool neg,.int .u64 (k:Int)] w λu w'=>FO w' u (dtj neg k)/\Chg [] w w':=by
 have a:=crf w;have X:=b5x k;have Y:=a0q k M;refine zE3 Tryz.func163 rfl ?_;refine Sr λ_ B=>?_;refine zBh rfl rfl rfl a λb3 U f Q O o a=>?_;refine zAh rfl rfl a λb6 T b q p m a=>?_;have t:=zdd f.lt p;have f:=f.k0 q;refine za rfl (zz (B (zc λ_ A=>Sr λ_ z=>zm rfl (zf rfl (zl f rfl rfl ?_)))));refine WL.ev (Ev.geq rfl rfl) rfl ?_;refine zz (z ?_);refine zy rfl ?_ ?_<;>intro D<;>try simp only[qs] at D
 ·have C:9218868437227405312<=k:=by omega
  refine Sr λ_ y=>?_;refine WL.ev (Ev.build (vs:=_) (cs:=[_,_,_]) rfl rfl) rfl ?_;refine zss rfl rfl ao b rfl λJ c j=>?_;(try simp only[qt] at c);have a:=a.s1 j;have b:=c;refine za rfl (zz (y ?_));refine zr (k8.gJ rfl (aX.cell rfl (b.fX rfl rfl)) (aX.tmp rfl) ?_);unfold dtj;rw[if_pos C];exact ⟨.inr ⟨rfl,rfl⟩,a⟩
 have l : ¬9218868437227405312<=k:=by omega
 refine zkk (A (Sr λ_ x=>zg f rfl (zm rfl ?_)));refine WL.call hasF226 rfl rfl (qZ k _ M) λv w1 G=>?_;obtain ⟨⟨r,rfl,Z⟩,R⟩:=G;have a:=a.ta R;have b:=b.k0 R;refine zm rfl (zx rfl rfl (zx rfl rfl (za rfl (za rfl (zz (x (Sr λ_ h=>zm rfl (zm rfl (zm rfl ?_)))))))));refine WL.call hasF187 rfl rfl (a1j neg r _ (pZ k) _ Z oO (by have:=aQ (n:=anj k) (k:=2);have:=this.2 oO;omega)) λv w2 G=>?_;obtain ⟨F,s⟩:=G;have a:=a.ta s;have b:=b.k0 s;rcases F with ⟨V,d1,d,rfl,g⟩|⟨d,rfl⟩
 ·rw[g6] at d;refine zx rfl rfl (zx rfl rfl ?_);refine zss rfl rfl ao b rfl λI c e=>?_;(try simp only[qt] at c);have a:=a.s1 e;have g:=g.q8 b e an;have b:=c;refine za rfl (zz (h ?_));refine zr (k8.gJ rfl (aX.cell rfl (b.fX rfl rfl)) (aX.tmp rfl) ?_);unfold dtj;rw[if_neg l];exact ⟨.inl ⟨V,d1,d,rfl,g⟩,a⟩
 rw[g6] at d;refine zx rfl rfl (zx rfl rfl ?_);refine zss rfl rfl ao b rfl λH c i=>?_;(try simp only[qt] at c);have a:=a.s1 i;have b:=c;refine za rfl (zz (h ?_));refine zr (k8.gJ rfl (aX.cell rfl (b.fX rfl rfl)) (aX.tmp rfl) ?_);unfold dtj;rw[if_neg l];exact ⟨.inr ⟨d,rfl⟩,a⟩
def OF(w:World)(u:Value)(x:Option Dy):Prop:=(∃ r d,x=some d/\u = .tuple [.agg [.bool d.neg,r,.int .i64 d.e].toArray,.int .i64 0].toArray/\NU w r (wd d.m))\/(x=none/\u = .tuple [.agg [.bool false,.slice none 0 0,.int .i64 0].toArray,.int .i64 30].toArray)
def dqj(x:Nat):Option Dy:=dtj (decide (x/9223372036854775808=1)) (x%9223372036854775808)
theorem r3Of_spec(x:Nat)(w:World)(hx:x<18446744073709551616):Ret Tryz.prog 95 [.float .f64 x] w λu w'=>OF w' u (dqj x)/\Chg [] w w':=by
 have c:=crf w;refine zE1 Tryz.func95 rfl ?_;refine Sr λ_ F=>?_;refine zAh rfl rfl c λb2 V a T R y c=>?_;refine za rfl (zz (F (Sr λ_ D=>zm rfl ?_)));refine WL.ev (Ev.ext rfl (ext48 _ _)) rfl ?_;refine za rfl (zz (D (Sr λ_ q=>?_)));refine WL.call hasF162 rfl rfl (byq _) λv w1 H=>?_;obtain ⟨rfl,U⟩:=H;have c:=c.ta U;have a:=a.k0 U;refine zm rfl ?_;refine WL.ev (Ev.atx (b:=63) rfl rfl (by simp only[IntKind.bits];omega)) rfl ?_;rw[show x/2^63=x/9223372036854775808 from rfl];refine zq rfl rfl ?_;rw[show decide (((x/9223372036854775808:Nat):Int)=1)=decide (x/9223372036854775808=1) from decide_eq_decide.2 oO];refine zm rfl ?_;refine WL.ev (Ev.apx (b:=1) rfl rfl) rfl ?_;refine WL.ev (Ev.atx (b:=1) rfl rfl (by simp only[IntKind.bits];omega)) rfl ?_;rw[show x*2^1%18446744073709551616/2^1=x%9223372036854775808 by omega];refine WL.call hasF163 rfl rfl (r3Bits_spec _ (x%9223372036854775808) _ oO) λv w2 H=>?_;obtain ⟨G,z⟩:=H;have c:=c.ta z;have a:=a.k0 z;rcases G with ⟨X,Y,o,rfl,d⟩|⟨o,rfl⟩
 ·refine zm rfl (zx rfl rfl (zx rfl rfl ?_));refine zAh rfl rfl c λZ A i g k j c=>?_;have d:=d.q5 g;have n:=zdd a.lt k;have a:=a.k0 g;refine zss rfl rfl ao i rfl λO h f=>?_;(try simp only[qt] at h);have c:=c.s1 f;have a:=a.kq f;have d:=d.q8 i f an;have i:=h;refine za rfl (zz (q (zc λ_ C=>Sr λ_ B=>zm rfl (zT rfl (zz (B ?_))))));refine CW.oX rfl ?_;refine zkk (C (Sr λ_ t=>zg i rfl ?_));refine zss rfl rfl ao a rfl λM e m=>?_;(try simp only[qt] at e);have c:=c.s1 m;have d:=d.q8 a m an;have a:=e;refine za rfl (zz (t ?_));refine zr (k8.gJ rfl (aX.cell rfl (a.fX rfl rfl)) (aX.tmp rfl) ?_);exact ⟨.inl ⟨X,Y,o,rfl,d⟩,c⟩
 refine zm rfl (zx rfl rfl (zx rfl rfl ?_));refine zAh rfl rfl c λZ A i g k j c=>?_;have n:=zdd a.lt k;have a:=a.k0 g;refine zss rfl rfl ao i rfl λJ h l=>?_;(try simp only[qt] at h);have c:=c.s1 l;have a:=a.kq l;refine za rfl (zz (q (zc λ_ Q=>Sr λ_ s=>zm rfl (zT rfl (zz (s ?_))))));refine CW.nZ rfl ?_;refine Sr λ_ r=>?_;refine WL.ev (Ev.build (vs:=_) (cs:=[_,_,_]) rfl rfl) rfl ?_;refine zss rfl rfl ao a rfl λI e p=>?_;(try simp only[qt] at e);have c:=c.s1 p;have a:=e;refine za rfl (zz (r ?_));refine zr (k8.gJ rfl (aX.cell rfl (a.fX rfl rfl)) (aX.tmp rfl) ?_);exact ⟨.inr ⟨o,rfl⟩,c⟩
theorem a8j(n:Int)(w:World)(hn : -9223372036854775808<=n/\n<=9223372036854775807):Ret Tryz.prog 109 [.int .i64 n] w λu w'=>DY w' u (cZ n)/\Chg [] w w':=by
 have b:=crf w;refine zE1 Tryz.func109 rfl ?_;refine Sr λ_ T=>?_;refine zAh rfl rfl b λb2 a2 a a1 a0 G b=>?_;refine zz (T (Sr λ_ R=>zm rfl ?_));refine WL.ev (Ev.conv rfl rfl) rfl ?_;rw[vJ];refine za rfl (zz (R (zc λ_ B=>Sr λ_ Q=>zm rfl (zL rfl rfl (zz (Q ?_))))));refine zy rfl ?_ ?_<;>intro U<;>try simp only[qs] at U
 ·refine zR λ_ M=>?_
  refine zm rfl ?_;refine WL.ev (Ev.sub rfl rfl) rfl ?_;rw[vJ,show (0-n%18446744073709551616)%18446744073709551616=((n.natAbs:Nat):Int) by omega];have z:n.natAbs=n.natAbs:=rfl;refine za rfl ?_;refine WL.nil (M _ _ _ (B ?_));refine Sr λ_ O=>zm rfl (zL rfl rfl (zm rfl ?_));refine WL.call hasF159 rfl rfl (blj n.natAbs _ oO) λv w1 A=>?_;obtain ⟨t,j,H⟩:=A;have b:=b.ta j;have a:=a.k0 j;refine WL.call hasF187 rfl rfl (a1j _ _ _ 0 _ t oO (by have:=aQ (n:=n.natAbs) (k:=2);have:=this.2 oO;omega)) λv w2 A=>?_;obtain ⟨I,i⟩:=A;rw[g6,z,bfj oO] at I;rcases I with ⟨r,d,y,rfl,c⟩|⟨y,rfl⟩
  rotate_left
  · cases y
  cases y;have b:=b.ta i;have a:=a.k0 i;refine zm rfl (zx rfl rfl (zx rfl rfl ?_));refine zAh rfl rfl b λb4 J e f p o b=>?_;have c:=c.q5 f;have x:=zdd a.lt p;have a:=a.k0 f;refine zss rfl rfl ao e rfl λZ g m=>?_;(try simp only[qt] at g);have b:=b.s1 m;have a:=a.kq m;have c:=c.q8 e m an;have e:=g;refine za rfl (zz (O (Sr λ_ F=>zg e rfl ?_)));refine zss rfl rfl ao a rfl λY h s=>?_;(try simp only[qt] at h);have b:=b.s1 s;have c:=c.q8 a s an;have a:=h;refine zz (F ?_);refine zr (k8.qJ rfl (aX.cell rfl (a.fX rfl rfl)) ?_);exact ⟨⟨⟨_,rfl,c⟩⟩,b⟩
 rw[show n%18446744073709551616=((n.natAbs:Nat):Int) by omega];have z:n.natAbs=n.natAbs:=rfl;refine zkk (B (Sr λ_ D=>zm rfl (zL rfl rfl (zm rfl ?_))));refine WL.call hasF159 rfl rfl (blj n.natAbs _ oO) λv w3 A=>?_;obtain ⟨t,j,H⟩:=A;have b:=b.ta j;have a:=a.k0 j;refine WL.call hasF187 rfl rfl (a1j _ _ _ 0 _ t oO (by have:=aQ (n:=n.natAbs) (k:=2);have:=this.2 oO;omega)) λv w4 A=>?_;obtain ⟨I,i⟩:=A;rw[g6,z,bfj oO] at I;rcases I with ⟨r,d,y,rfl,c⟩|⟨y,rfl⟩
 rotate_left
 · cases y
 cases y;have b:=b.ta i;have a:=a.k0 i;refine zm rfl (zx rfl rfl (zx rfl rfl ?_));refine zAh rfl rfl b λb4 J e f p o b=>?_;have c:=c.q5 f;have x:=zdd a.lt p;have a:=a.k0 f;refine zss rfl rfl ao e rfl λX g l=>?_;(try simp only[qt] at g);have b:=b.s1 l;have a:=a.kq l;have c:=c.q8 e l an;have e:=g;refine za rfl (zz (D (Sr λ_ C=>zg e rfl ?_)));refine zss rfl rfl ao a rfl λV h q=>?_;(try simp only[qt] at h);have b:=b.s1 q;have c:=c.q8 a q an;have a:=h;refine zz (C ?_);refine zr (k8.qJ rfl (aX.cell rfl (a.fX rfl rfl)) ?_);exact ⟨⟨⟨_,rfl,c⟩⟩,b⟩
theorem bex(x:Bool)(t:Value)(d:List Nat)(D:Int)(w:World)(j:NU w t d)(r:d.length<=35184372088832):Ret Tryz.prog 157 [.agg [.bool x,t,.int .i64 D].toArray] w λu w'=>u = .int .i64 (sgD x (val d))/\Chg [] w w':=by
 have a:=crf w;have A:=j.one;have B:=adj (n:=val d);refine zE1 Tryz.func157 rfl ?_;refine Sr λ_ q=>?_;refine zBh rfl rfl rfl a λG z i h y g a=>?_;have j:=j.q5 h;refine za rfl (zz (q (zc λ_ p=>Sr λ_ o=>zf rfl (zl i rfl rfl ?_))));refine WL.call hasF223 rfl rfl (a9q _ _ _ j r) λv F C=>?_;obtain ⟨rfl,rfl⟩:=C;refine zq rfl rfl (zz (o ?_));refine zy rfl ?_ ?_<;>intro s<;>try simp only[qs] at s
 ·refine Sr λ_ m=>za rfl (zz (m ?_));refine zr (zr1 rfl rfl ?_);unfold sgD;rw[if_pos oO];exact ⟨rfl,a⟩
 refine zkk (p (zc λ_ l=>Sr λ_ k=>zf rfl (zl i rfl rfl (zz (k ?_)))));refine zy rfl ?_ ?_<;>intro c<;>try simp only[qs] at c
 ·have b:=c
  refine Sr λ_ f=>za rfl (zz (f ?_));refine zr (zr1 rfl rfl ?_);unfold sgD;rw[if_neg (show ¬val d=0 by omega),if_pos b];exact ⟨rfl,a⟩
 have b:=c;refine zkk (l (Sr λ_ e=>za rfl (zz (e ?_))));refine zr (zr1 rfl rfl ?_);unfold sgD;rw[if_neg (show ¬val d=0 by omega),if_neg (by rw[b];decide)];exact ⟨rfl,a⟩
theorem cuj{x y:Dy}(c:x.ok)(b:y.ok):cQ (x.neg != y.neg) (x.m*y.m) (x.e+y.e)=fJ x y:=by
  unfold fJ
  split
  · rename_i h
    have a:x.m*y.m≠0:=λe=>by rw[e,eJ] at h;simp at h
    have i:x.m≠0:=λe=>a (by rw[e,Nat.zero_mul])
    have g:y.m≠0:=λe=>a (by rw[e,Nat.mul_zero])
    have f:x.m*y.m%2=1:=by rw[Nat.mul_mod,c.odd i,b.odd g]
    have d:=cdj f
    exact bsx a (by rw[d,Nat.pow_zero,Nat.div_one];omega)
  · rfl
theorem up_len_gen{m k a b:Nat}(c:(wd m).length<=a)(d:k<=32*b):(wd (m*2^k)).length<=a+b:=by
  refine aQ.2 ?_
  have f:=aQ.1 c
  have e:2^k<=2^(32*b):=Nat.pow_le_pow_right oD d
  refine Nat.lt_of_lt_of_le (Nat.mul_lt_mul_of_lt_of_le f e (Nat.two_pow_pos _)) ?_
  rw[<- Nat.pow_add,<- Nat.mul_add]
  exact Nat.le_refl _
theorem sum_len_gen{p q a:Nat}(c:(wd p).length<=a)(b:(wd q).length<=a):(wd (p+q)).length<=a+1:=by
  refine aQ.2 ?_
  have e:=aQ.1 c
  have d:=aQ.1 b
  rw[two32]
  generalize 2^(32*a)=z at *
  omega
theorem mul_len{x y a b:Nat}(d:(wd x).length<=a)(c:(wd y).length<=b):(wd (x*y)).length<=a+b:=by
  refine aQ.2 ?_
  rw[Nat.mul_add,Nat.pow_add]
  exact Nat.mul_lt_mul_of_lt_of_lt (aQ.1 d) (aQ.1 c)
theorem up_len{m k:Nat}(a:(wd m).length<=8192)(c:k<=4194304):(wd (m*2^k)).length<=139264:=up_len_gen a (b:=131072) oO
theorem sum_len{p q:Nat}(b:(wd p).length<=8192)(a:(wd q).length<=8192):(wd (p+q)).length<=8193:=sum_len_gen b a
theorem a9x(na nb:Bool)(va vb:Value)(la lb:List Nat)(ea eb:Int)(w:World)(ha:NU w va la)(X:NU w vb lb)(p1 : -9223372036854775808<=ea/\ea<=9223372036854775807)(l8 : -9223372036854775808<=eb/\eb<=9223372036854775807)(o7:la.length<=34359738368)(k5:lb.length<=34359738368):Ret Tryz.prog 100 [.agg [.bool na,va,.int .i64 ea].toArray,.agg [.bool nb,vb,.int .i64 eb].toArray] w λu w'=>DR w' u (bgj xX (cQ na (val la) ea) (cQ nb (val lb) eb))/\Chg [] w w':=by
 have b:=crf w;have u9:=ha.one;have u7:=X.one;refine zE2 Tryz.func100 rfl ?_;refine Sr λ_ n6=>?_;refine zBh rfl rfl rfl b λb2 t8 a6 e6 t3 l6 b=>?_;have ha:=ha.q5 e6;have X:=X.q5 e6;refine zBh rfl rfl rfl b λb3 t7 n d3 l7 l5 b=>?_;have ha:=ha.q5 d3;have X:=X.q5 d3;have n0:=zdd a6.lt l7;have a6:=a6.k0 d3;refine zAh rfl rfl b λb4 t6 a a8 e5 l4 b=>?_;have ha:=ha.q5 a8;have X:=X.q5 a8;have m9:=zdd a6.lt e5;have a6:=a6.k0 a8;have m8:=zdd n.lt e5;have n:=n.k0 a8;refine za rfl (zz (n6 (Sr λ_ h9=>zg a6 rfl ?_)));refine WL.call hasF154 rfl rfl (rQ na va la ea _ ha p1 o7) λv w1 R=>?_;obtain ⟨p8,d6⟩:=R;have b:=b.ta d6;have n:=n.k0 d6;have a:=a.k0 d6;have X:=X.q5 d6;rcases p8 with ⟨r1,A,B,rfl,h⟩|⟨B,rfl⟩
 ·have b7:=iJ B;have v2:=b7.e;have l1:=b7.len;obtain ⟨⟨a1,c1,rfl,f8,o0⟩,p7,l1⟩:=h;have h:NU _ (.slice a1 (wd A.m).length c1) (wd A.m):=NU.acq o0 p7 l1 rfl f8;have u3:(wd A.m).length=0↔A.m=0:=by rw[List.length_eq_zero_iff,rZ]
  refine zm rfl (zx rfl rfl (zx rfl rfl ?_));refine zAh rfl rfl b λb6 n1 f D Z b9 b=>?_;have X:=X.q5 D;have h:=h.q5 D;have d5:=zdd n.lt Z;have n:=n.k0 D;have d4:=zdd a.lt Z;have a:=a.k0 D;refine zss rfl rfl ao f rfl λs4 a9 M=>?_;(try simp only[qt] at a9);have b:=b.s1 M;have n:=n.kq M;have a:=a.kq M;have X:=X.q8 f M an;have h:=h.q8 f M an;have f:=a9;refine za rfl (zz (h9 (Sr λ_ h2=>zg n rfl ?_)));refine WL.call hasF154 rfl rfl (rQ nb vb lb eb _ X l8 k5) λv w2 R=>?_;obtain ⟨g2,a7⟩:=R;have b:=b.ta a7;have a:=a.k0 a7;have f:=f.k0 a7;have h:=h.q5 a7;rcases g2 with ⟨r2,y,z,rfl,j⟩|⟨z,rfl⟩
  ·have b5:=iJ z;have v1:=b5.e;have l0:=b5.len;obtain ⟨⟨a2,c2,rfl,f7,n9⟩,p6,l0⟩:=j;have j:NU _ (.slice a2 (wd y.m).length c2) (wd y.m):=NU.acq n9 p6 l0 rfl f7;have u2:(wd y.m).length=0↔y.m=0:=by rw[List.length_eq_zero_iff,rZ]
   refine zm rfl (zx rfl rfl (zx rfl rfl ?_));refine zAh rfl rfl b λb8 e8 g s C I b=>?_;have h:=h.q5 s;have j:=j.q5 s;have U:=zdd a.lt C;have a:=a.k0 s;have m7:=zdd f.lt C;have f:=f.k0 s;refine zss rfl rfl ao g rfl λs3 F J=>?_;(try simp only[qt] at F);have b:=b.s1 J;have a:=a.kq J;have f:=f.kq J;have h:=h.q8 g J an;have j:=j.q8 g J an;have g:=F;refine za rfl (zz (h2 (zc λ_ n5=>Sr λ_ n4=>zm rfl (zT rfl (zm rfl (zw rfl (zm rfl (zw rfl (zT rfl (ze rfl rfl (zz (n4 ?_))))))))))));refine CW.oX rfl ?_;refine zkk (n5 (zc λ_ k3=>Sr λ_ i9=>zf rfl (zl f rfl rfl (zn rfl (zq rfl rfl (zz (i9 ?_)))))));refine zy rfl ?_ ?_<;>intro p5<;>try simp only[qs] at p5
   ·have T:A.m=0:=by omega
    refine Sr λ_ i8=>zg g rfl ?_;refine zss rfl rfl ao a rfl λs0 c d0=>?_;(try simp only[qt] at c);have b:=b.s1 d0;have j:=j.q8 a d0 an;have a:=c;refine za rfl (zz (i8 ?_));refine zr (k8.gJ rfl (aX.cell rfl (a.fX rfl rfl)) (aX.tmp rfl) ?_);rw[B,z];exact ⟨.inl ⟨_,y,by show xX A y=_;unfold xX;rw[if_pos T],rfl,j⟩,b⟩
   have T:A.m≠0:=by omega
   refine zkk (k3 (zc λ_ i7=>Sr λ_ i6=>zf rfl (zl g rfl rfl (zn rfl (zq rfl rfl (zz (i6 ?_)))))));refine zy rfl ?_ ?_<;>intro p4<;>try simp only[qs] at p4
   ·have Y:y.m=0:=by omega
    refine Sr λ_ i5=>zg f rfl ?_;refine zss rfl rfl ao a rfl λr9 c c9=>?_;(try simp only[qt] at c);have b:=b.s1 c9;have h:=h.q8 a c9 an;have a:=c;refine za rfl (zz (i5 ?_));refine zr (k8.gJ rfl (aX.cell rfl (a.fX rfl rfl)) (aX.tmp rfl) ?_);rw[B,z];exact ⟨.inl ⟨_,A,by show xX A y=_;unfold xX;rw[if_neg T,if_pos Y],rfl,h⟩,b⟩
   have Y:y.m≠0:=by omega
   obtain ⟨k1,l3⟩ : ∃ k:Nat,(k:Int)=A.e-min A.e y.e:=⟨(A.e-min A.e y.e).toNat,by omega⟩;obtain ⟨k2,l2⟩ : ∃ k:Nat,(k:Int)=y.e-min A.e y.e:=⟨(y.e-min A.e y.e).toNat,by omega⟩;refine zkk (i7 (Sr λ_ i4=>zf rfl (zl f rfl rfl (zf rfl (zl g rfl rfl ?_)))));refine WL.ev (Ev.minI rfl rfl) rfl ?_;refine za rfl (zz (i4 (Sr λ_ i3=>zf rfl (zl f rfl rfl (zf rfl (zl f rfl rfl (zm rfl ?_)))))));refine WL.ev (Ev.dX rfl rfl oO) rfl ?_;rw[<- l3];refine WL.call hasF172 rfl rfl (zZ _ _ _ h k1 oO oO) λv w3 R=>?_;obtain ⟨o,x,t5⟩:=R;rw[g6] at o;obtain ⟨p,hp⟩ : ∃ p,p=A.m*2^k1:=⟨_,rfl⟩;rw[<- hp] at o;have o6:=up_len b7.len (k:=k1) oO;rw[<- hp] at o6;have m1:=o;obtain ⟨⟨ap,cp,rfl,p3,u6⟩,v4,t2⟩:=m1;have b:=b.ta x;have a:=a.k0 x;have f:=f.k0 x;have g:=g.k0 x;have j:=j.q5 x;refine za rfl (zz (i3 (Sr λ_ i2=>zf rfl (zl g rfl rfl (zf rfl (zl g rfl rfl (zm rfl ?_)))))));refine WL.ev (Ev.dX rfl rfl oO) rfl ?_;rw[<- l2];refine WL.call hasF172 rfl rfl (zZ _ _ _ j k2 oO oO) λv w4 R=>?_;obtain ⟨t,x,t4⟩:=R;rw[g6] at t;obtain ⟨q,hq⟩ : ∃ q,q=y.m*2^k2:=⟨_,rfl⟩;rw[<- hq] at t;have o5:=up_len b5.len (k:=k2) oO;rw[<- hq] at o5;have m0:=t;obtain ⟨⟨aq,cq,rfl,p2,u5⟩,v3,t1⟩:=m0;have b:=b.ta x;have a:=a.k0 x;have f:=f.k0 x;have g:=g.k0 x;have o:=o.q5 x;refine za rfl (zz (i2 (zc λ_ i1=>?_)));refine CW.oJ 66 (decide (8192<(wd p).length\/8192<(wd q).length)) ?_ ?_
   ·refine zS λ_ e0=>zm rfl (zn rfl (zG rfl rfl (zm rfl ?_)));refine zb ?_ ?_<;>intro o9<;>try simp only[qs] at o9
    ·refine zv rfl (zv rfl (zv rfl (zt rfl rfl (zz (e0 ?_)))));refine ⟨rfl,rfl,q9.g7 rfl ?_ ?_⟩
     ·first|(simp;omega)|(simp_all;done)|(refine decide_eq_decide.2 ?_;omega)
     exact SMg
    refine zw rfl (zm rfl (zw rfl (zn rfl (zw rfl (zG rfl rfl (ze rfl rfl (zz (e0 ?_))))))));refine ⟨rfl,rfl,q9.g7 rfl ?_ ?_⟩
    ·first|(simp;omega)|(simp_all;done)|(refine decide_eq_decide.2 ?_;omega)
    exact SMg
   have H:p=A.m*2^(A.e-min A.e y.e).toNat:=by rw[hp,<- l3];rfl
   have G:q=y.m*2^(y.e-min A.e y.e).toNat:=by rw[hq,<- l2];rfl
   refine zy rfl ?_ ?_<;>intro g0<;>try simp only[qs] at g0
   ·have e9:=g0
    refine Sr λ_ i0=>?_;refine WL.ev (Ev.build (vs:=_) (cs:=[_,_,_]) rfl rfl) rfl ?_;refine zss rfl rfl ao a rfl λr8 c f6=>?_;(try simp only[qt] at c);have b:=b.s1 f6;have a:=c;refine za rfl (zz (i0 ?_));refine zr (k8.gJ rfl (aX.cell rfl (a.fX rfl rfl)) (aX.tmp rfl) ?_);rw[B,z];exact ⟨.inr ⟨by show xX A y=_;rw[xQ T Y H G,if_pos e9],rfl⟩,b⟩
   have b0 : ¬(8192<(wd p).length\/8192<(wd q).length):=g0;have u4:=sum_len (p:=p) (q:=q) oO oO;refine zkk (i1 (zc λ_ h8=>Sr λ_ h7=>zf rfl (zl f rfl rfl (zf rfl (zl g rfl rfl ?_)))));refine WL.ev (Ev.bbq rfl rfl) rfl ?_;refine zz (h7 ?_);refine zy rfl ?_ ?_<;>intro f9<;>try simp only[qs] at f9
   ·have a4:A.neg=y.neg:=by simpa using f9
    refine zc λ_ e4=>?_;refine CW.gX 9 11 rfl cJ λt0 d9 i l=>?_;have b:=b.ta l;have a:=a.k0 l;have f:=f.k0 l;have o:=o.q5 l;have t:=t.q5 l;have a5:=f;refine wk 0 rfl i (eF rfl) (wk 1 rfl i (λ_ b1=>Ev.load rfl rfl ((a5.q5 b1).at_ rfl)) (wk 2 rfl i (eM rfl) (wk 3 rfl i (eM rfl) (wk 5 rfl i (eM rfl) ?_))));refine WK.k6 4 rfl oR hasF173 rfl rfl (byj _ _ _ _ _ o t oO oO) λv w5 R=>?_;obtain ⟨a0,x,m2⟩:=R;rw[g6,g6] at a0;have b:=b.ta x;have a:=a.k0 x;have i:=i.trans x;refine ⟨i,?_⟩;refine WK.k6 6 rfl oR hasF164 rfl rfl (a1q _ _ _ _ _ a0 oO oO) λv w6 R=>?_;obtain ⟨a3,Q⟩:=R;rw[g6] at a3;have b:=b.ta Q;have a:=a.k0 Q;have i:=i.trans Q;refine ⟨i,?_⟩;rcases a3 with ⟨r,d,hd,rfl,O⟩|⟨hd,rfl⟩
    ·refine wk 7 rfl i (eX rfl rfl) (wk 8 rfl i (eX rfl rfl) ?_);refine WK.nQ 9 rfl oR oR rfl rfl rfl ao a oS rfl λr7 c c8=>?_;(try simp only[qt] at c);have b:=b.s1 c8;have O:=O.q8 a c8 an;have a:=c;refine WK.after 10 rfl oR oR (Ev.assign rfl) rfl ?_;refine WK.done oR (d9 _ _ _ ?_);refine e4 ?_;refine zr (k8.gJ rfl (aX.cell rfl (a.fX rfl rfl)) (aX.tmp rfl) ?_);rw[B,z];exact ⟨.inl ⟨r,d,by show xX A y=_;rw[xQ T Y H G,if_neg b0,if_pos a4];exact hd,rfl,O⟩,b⟩
    refine wk 7 rfl i (eX rfl rfl) (wk 8 rfl i (eX rfl rfl) ?_);refine WK.nQ 9 rfl oR oR rfl rfl rfl ao a oS rfl λr6 c f5=>?_;(try simp only[qt] at c);have b:=b.s1 f5;have a:=c;refine WK.after 10 rfl oR oR (Ev.assign rfl) rfl ?_;refine WK.done oR (d9 _ _ _ ?_);refine e4 ?_;refine zr (k8.gJ rfl (aX.cell rfl (a.fX rfl rfl)) (aX.tmp rfl) ?_);rw[B,z];exact ⟨.inr ⟨by show xX A y=_;rw[xQ T Y H G,if_neg b0,if_pos a4];exact hd,rfl⟩,b⟩
   have a4:A.neg≠y.neg:=by simpa using f9
   refine zkk (h8 (zc λ_ h6=>Sr λ_ h5=>zm rfl (zm rfl ?_)));refine WL.call hasF174 rfl rfl (ayq _ _ _ _ _ o t) λv w7 R=>?_;obtain ⟨rfl,x⟩:=R;rw[g6,g6];have b:=b.ta x;have a:=a.k0 x;have f:=f.k0 x;have g:=g.k0 x;have o:=o.q5 x;have t:=t.q5 x;refine WL.ev (Ev.geq rfl rfl) rfl ?_;refine zz (h5 ?_);refine zy rfl ?_ ?_<;>intro l9<;>try simp only[qs] at l9
   ·have o8:q<=p:=ddx.1 l9
    have o4:=uX (Nat.sub_le p q);refine zc λ_ e3=>?_;refine CW.gX 9 11 rfl cJ λs9 d8 i l=>?_;have b:=b.ta l;have a:=a.k0 l;have f:=f.k0 l;have o:=o.q5 l;have t:=t.q5 l;have a5:=f;refine wk 0 rfl i (eF rfl) (wk 1 rfl i (λ_ b1=>Ev.load rfl rfl ((a5.q5 b1).at_ rfl)) (wk 2 rfl i (eM rfl) (wk 3 rfl i (eM rfl) (wk 5 rfl i (eM rfl) ?_))));refine WK.k6 4 rfl oR hasF175 rfl rfl (brq _ _ _ _ _ o t oO (by rw[g6,g6];exact o8)) λv w8 R=>?_;obtain ⟨a0,x,m2⟩:=R;rw[g6,g6] at a0;have b:=b.ta x;have a:=a.k0 x;have i:=i.trans x;refine ⟨i,?_⟩;refine WK.k6 6 rfl oR hasF164 rfl rfl (a1q _ _ _ _ _ a0 oO oO) λv w9 R=>?_;obtain ⟨a3,Q⟩:=R;rw[g6] at a3;have b:=b.ta Q;have a:=a.k0 Q;have i:=i.trans Q;refine ⟨i,?_⟩;rcases a3 with ⟨r,d,hd,rfl,O⟩|⟨hd,rfl⟩
    ·refine wk 7 rfl i (eX rfl rfl) (wk 8 rfl i (eX rfl rfl) ?_);refine WK.nQ 9 rfl oR oR rfl rfl rfl ao a oS rfl λr5 c c7=>?_;(try simp only[qt] at c);have b:=b.s1 c7;have O:=O.q8 a c7 an;have a:=c;refine WK.after 10 rfl oR oR (Ev.assign rfl) rfl ?_;refine WK.done oR (d8 _ _ _ ?_);refine e3 ?_;refine zr (k8.gJ rfl (aX.cell rfl (a.fX rfl rfl)) (aX.tmp rfl) ?_);rw[B,z];exact ⟨.inl ⟨r,d,by show xX A y=_;rw[xQ T Y H G,if_neg b0,if_neg a4,if_neg (show ¬p<q by omega)];exact hd,rfl,O⟩,b⟩
    refine wk 7 rfl i (eX rfl rfl) (wk 8 rfl i (eX rfl rfl) ?_);refine WK.nQ 9 rfl oR oR rfl rfl rfl ao a oS rfl λr4 c f4=>?_;(try simp only[qt] at c);have b:=b.s1 f4;have a:=c;refine WK.after 10 rfl oR oR (Ev.assign rfl) rfl ?_;refine WK.done oR (d8 _ _ _ ?_);refine e3 ?_;refine zr (k8.gJ rfl (aX.cell rfl (a.fX rfl rfl)) (aX.tmp rfl) ?_);rw[B,z];exact ⟨.inr ⟨by show xX A y=_;rw[xQ T Y H G,if_neg b0,if_neg a4,if_neg (show ¬p<q by omega)];exact hd,rfl⟩,b⟩
   have k4:p<q:=Nat.lt_of_not_le λhn=>by have:=ddx.2 hn;omega
   have o4:=uX (Nat.sub_le q p);refine zkk (h6 (zc λ_ e2=>?_));refine CW.gX 9 11 rfl cJ λs8 d7 i l=>?_;have b:=b.ta l;have a:=a.k0 l;have g:=g.k0 l;have o:=o.q5 l;have t:=t.q5 l;have g1:=g;refine wk 0 rfl i (eF rfl) (wk 1 rfl i (λ_ b1=>Ev.load rfl rfl ((g1.q5 b1).at_ rfl)) (wk 2 rfl i (eM rfl) (wk 3 rfl i (eM rfl) (wk 5 rfl i (eM rfl) ?_))));refine WK.k6 4 rfl oR hasF175 rfl rfl (brq _ _ _ _ _ t o oO (by rw[g6,g6];omega)) λv u0 R=>?_;obtain ⟨a0,x,m2⟩:=R;rw[g6,g6] at a0;have b:=b.ta x;have a:=a.k0 x;have i:=i.trans x;refine ⟨i,?_⟩;refine WK.k6 6 rfl oR hasF164 rfl rfl (a1q _ _ _ _ _ a0 oO oO) λv t9 R=>?_;obtain ⟨a3,Q⟩:=R;rw[g6] at a3;have b:=b.ta Q;have a:=a.k0 Q;have i:=i.trans Q;refine ⟨i,?_⟩;rcases a3 with ⟨r,d,hd,rfl,O⟩|⟨hd,rfl⟩
   ·refine wk 7 rfl i (eX rfl rfl) (wk 8 rfl i (eX rfl rfl) ?_);refine WK.nQ 9 rfl oR oR rfl rfl rfl ao a oS rfl λr3 c c6=>?_;(try simp only[qt] at c);have b:=b.s1 c6;have O:=O.q8 a c6 an;have a:=c;refine WK.after 10 rfl oR oR (Ev.assign rfl) rfl ?_;refine WK.done oR (d7 _ _ _ ?_);refine e2 ?_;refine zr (k8.gJ rfl (aX.cell rfl (a.fX rfl rfl)) (aX.tmp rfl) ?_);rw[B,z];exact ⟨.inl ⟨r,d,by show xX A y=_;rw[xQ T Y H G,if_neg b0,if_neg a4,if_pos k4];exact hd,rfl,O⟩,b⟩
   refine wk 7 rfl i (eX rfl rfl) (wk 8 rfl i (eX rfl rfl) ?_);refine WK.nQ 9 rfl oR oR rfl rfl rfl ao a oS rfl λr0 c f3=>?_;(try simp only[qt] at c);have b:=b.s1 f3;have a:=c;refine WK.after 10 rfl oR oR (Ev.assign rfl) rfl ?_;refine WK.done oR (d7 _ _ _ ?_);refine e2 ?_;refine zr (k8.gJ rfl (aX.cell rfl (a.fX rfl rfl)) (aX.tmp rfl) ?_);rw[B,z];exact ⟨.inr ⟨by show xX A y=_;rw[xQ T Y H G,if_neg b0,if_neg a4,if_pos k4];exact hd,rfl⟩,b⟩
  refine zm rfl (zx rfl rfl (zx rfl rfl ?_));refine zAh rfl rfl b λb8 e8 g s C I b=>?_;have U:=zdd a.lt C;have a:=a.k0 s;refine zss rfl rfl ao g rfl λq7 F c5=>?_;(try simp only[qt] at F);have b:=b.s1 c5;have a:=a.kq c5;refine za rfl (zz (h2 (zc λ_ s7=>Sr λ_ h4=>zm rfl (zT rfl (zm rfl (zw rfl (zm rfl (zw rfl (zT rfl (ze rfl rfl (zz (h4 ?_))))))))))));refine CW.nZ rfl ?_;refine Sr λ_ h3=>?_;refine WL.ev (Ev.build (vs:=_) (cs:=[_,_,_]) rfl rfl) rfl ?_;refine zss rfl rfl ao a rfl λq6 c f2=>?_;(try simp only[qt] at c);have b:=b.s1 f2;have a:=c;refine za rfl (zz (h3 ?_));refine zr (k8.gJ rfl (aX.cell rfl (a.fX rfl rfl)) (aX.tmp rfl) ?_);rw[z,alq];exact ⟨.inr ⟨rfl,rfl⟩,b⟩
 refine zm rfl (zx rfl rfl (zx rfl rfl ?_));refine zAh rfl rfl b λb6 n1 f D Z b9 b=>?_;have X:=X.q5 D;have d5:=zdd n.lt Z;have n:=n.k0 D;have d4:=zdd a.lt Z;have a:=a.k0 D;refine zss rfl rfl ao f rfl λq4 a9 V=>?_;(try simp only[qt] at a9);have b:=b.s1 V;have n:=n.kq V;have a:=a.kq V;have X:=X.q8 f V an;refine za rfl (zz (h9 (Sr λ_ e1=>zg n rfl ?_)));refine WL.call hasF154 rfl rfl (rQ nb vb lb eb _ X l8 k5) λv w12 R=>?_;obtain ⟨g2,a7⟩:=R;have b:=b.ta a7;have a:=a.k0 a7;rcases g2 with ⟨r2,y,z,rfl,j⟩|⟨z,rfl⟩
 ·refine zm rfl (zx rfl rfl (zx rfl rfl ?_));refine zAh rfl rfl b λb8 e8 g s C I b=>?_;have U:=zdd a.lt C;have a:=a.k0 s;refine zss rfl rfl ao g rfl λq3 F c4=>?_;(try simp only[qt] at F);have b:=b.s1 c4;have a:=a.kq c4;refine za rfl (zz (e1 (zc λ_ s6=>Sr λ_ h1=>zm rfl (zT rfl (zm rfl (zv rfl (zv rfl (zt rfl rfl (zz (h1 ?_))))))))));refine CW.nZ rfl ?_;refine Sr λ_ h0=>?_;refine WL.ev (Ev.build (vs:=_) (cs:=[_,_,_]) rfl rfl) rfl ?_;refine zss rfl rfl ao a rfl λq2 c f1=>?_;(try simp only[qt] at c);have b:=b.s1 f1;have a:=c;refine za rfl (zz (h0 ?_));refine zr (k8.gJ rfl (aX.cell rfl (a.fX rfl rfl)) (aX.tmp rfl) ?_);rw[B,aoj];exact ⟨.inr ⟨rfl,rfl⟩,b⟩
 refine zm rfl (zx rfl rfl (zx rfl rfl ?_));refine zAh rfl rfl b λb8 e8 g s C I b=>?_;have U:=zdd a.lt C;have a:=a.k0 s;refine zss rfl rfl ao g rfl λq1 F c3=>?_;(try simp only[qt] at F);have b:=b.s1 c3;have a:=a.kq c3;refine za rfl (zz (e1 (zc λ_ s5=>Sr λ_ g9=>zm rfl (zT rfl (zm rfl (zv rfl (zv rfl (zt rfl rfl (zz (g9 ?_))))))))));refine CW.nZ rfl ?_;refine Sr λ_ g5=>?_;refine WL.ev (Ev.build (vs:=_) (cs:=[_,_,_]) rfl rfl) rfl ?_;refine zss rfl rfl ao a rfl λq0 c f0=>?_;(try simp only[qt] at c);have b:=b.s1 f0;have a:=c;refine za rfl (zz (g5 ?_));refine zr (k8.gJ rfl (aX.cell rfl (a.fX rfl rfl)) (aX.tmp rfl) ?_);rw[B,aoj];exact ⟨.inr ⟨rfl,rfl⟩,b⟩
theorem sX(na nb:Bool)(va vb:Value)(la lb:List Nat)(ea eb:Int)(w:World)(ha:NU w va la)(A:NU w vb lb)(h3 : -9223372036854775808<=ea/\ea<=9223372036854775807)(e9 : -9223372036854775808<=eb/\eb<=9223372036854775807)(h2:la.length<=34359738368)(e2:lb.length<=34359738368):Ret Tryz.prog 96 [.agg [.bool na,va,.int .i64 ea].toArray,.agg [.bool nb,vb,.int .i64 eb].toArray] w λu w'=>DR w' u (bgj fJ (cQ na (val la) ea) (cQ nb (val lb) eb))/\Chg [] w w':=by
 have b:=crf w;have l8:=ha.one;have l7:=A.one;refine zE2 Tryz.func96 rfl ?_;refine Sr λ_ g9=>?_;refine zBh rfl rfl rfl b λb2 l3 G b0 l0 e7 b=>?_;have ha:=ha.q5 b0;have A:=A.q5 b0;refine zBh rfl rfl rfl b λb3 l2 h Z e8 e6 b=>?_;have ha:=ha.q5 Z;have A:=A.q5 Z;have g0:=zdd G.lt e8;have G:=G.k0 Z;refine zAh rfl rfl b λb4 l1 a M a9 e5 b=>?_;have ha:=ha.q5 M;have A:=A.q5 M;have f9:=zdd G.lt a9;have G:=G.k0 M;have f8:=zdd h.lt a9;have h:=h.k0 M;refine za rfl (zz (g9 (Sr λ_ d5=>zg G rfl ?_)));refine WL.call hasF154 rfl rfl (rQ na va la ea _ ha h3 h2) λv w1 h'=>?_;obtain ⟨h7,a4⟩:=h';have b:=b.ta a4;have h:=h.k0 a4;have a:=a.k0 a4;have A:=A.q5 a4;rcases h7 with ⟨r1,d1,R,rfl,c⟩|⟨R,rfl⟩
 ·have J:=iJ R;have m1:=J.e;have e4:=J.len;obtain ⟨⟨a1,c1,rfl,c5,h1⟩,h6,e4⟩:=c;have c:NU _ (.slice a1 (wd d1.m).length c1) (wd d1.m):=NU.acq h1 h6 e4 rfl c5;have l6:(wd d1.m).length=0↔d1.m=0:=by rw[List.length_eq_zero_iff,rZ]
  refine zm rfl (zx rfl rfl (zx rfl rfl ?_));refine zAh rfl rfl b λb6 g1 g n B T b=>?_;have A:=A.q5 n;have c:=c.q5 n;have a3:=zdd h.lt B;have h:=h.k0 n;have a0:=zdd a.lt B;have a:=a.k0 n;refine zss rfl rfl ao g rfl λk1 O x=>?_;(try simp only[qt] at O);have b:=b.s1 x;have h:=h.kq x;have a:=a.kq x;have A:=A.q8 g x an;have c:=c.q8 g x an;have g:=O;refine za rfl (zz (d5 (Sr λ_ d4=>zg h rfl ?_)));refine WL.call hasF154 rfl rfl (rQ nb vb lb eb _ A e9 e2) λv w2 h'=>?_;obtain ⟨c7,H⟩:=h';have b:=b.ta H;have a:=a.k0 H;have g:=g.k0 H;have c:=c.q5 H;rcases c7 with ⟨r2,d2,C,rfl,j⟩|⟨C,rfl⟩
  ·have I:=iJ C;have m0:=I.e;have e3:=I.len;obtain ⟨⟨a2,c2,rfl,c4,h0⟩,h5,e3⟩:=j;have j:NU _ (.slice a2 (wd d2.m).length c2) (wd d2.m):=NU.acq h0 h5 e3 rfl c4;have l5:(wd d2.m).length=0↔d2.m=0:=by rw[List.length_eq_zero_iff,rZ]
   refine zm rfl (zx rfl rfl (zx rfl rfl ?_));refine zAh rfl rfl b λb8 b5 k i l s b=>?_;have c:=c.q5 i;have j:=j.q5 i;have y:=zdd a.lt l;have a:=a.k0 i;have f7:=zdd g.lt l;have g:=g.k0 i;refine zss rfl rfl ao k rfl λi9 o t=>?_;(try simp only[qt] at o);have b:=b.s1 t;have a:=a.kq t;have g:=g.kq t;have c:=c.q8 k t an;have j:=j.q8 k t an;have k:=o;refine za rfl (zz (d4 (zc λ_ g5=>Sr λ_ g4=>zm rfl (zT rfl (zm rfl (zw rfl (zm rfl (zw rfl (zT rfl (ze rfl rfl (zz (g4 ?_))))))))))));refine CW.oX rfl ?_;refine zkk (g5 (zc λ_ a8=>?_));refine CW.gX 18 20 rfl cJ λk5 a6 p Q=>?_;have b:=b.ta Q;have a:=a.k0 Q;have g:=g.k0 Q;have k:=k.k0 Q;have c:=c.q5 Q;have j:=j.q5 Q;have F:=g;have D:=k;refine wk 0 rfl p (eF rfl) (wk 1 rfl p (λ_ q=>Ev.load rfl rfl ((F.q5 q).at_ rfl)) (wk 2 rfl p (eF rfl) (wk 3 rfl p (λ_ q=>Ev.load rfl rfl ((D.q5 q).at_ rfl)) (wk 4 rfl p (λ_ _=>Ev.dmx rfl rfl) (wk 5 rfl p (eF rfl) (wk 6 rfl p (λ_ q=>Ev.load rfl rfl ((F.q5 q).at_ rfl)) (wk 7 rfl p (eF rfl) (wk 8 rfl p (λ_ q=>Ev.load rfl rfl ((D.q5 q).at_ rfl)) (wk 10 rfl p (eF rfl) (wk 11 rfl p (λ_ q=>Ev.load rfl rfl ((F.q5 q).at_ rfl)) (wk 12 rfl p (eF rfl) (wk 13 rfl p (λ_ q=>Ev.load rfl rfl ((D.q5 q).at_ rfl)) (wk 14 rfl p (λ_ _=>Ev.jZ rfl rfl oO) ?_)))))))))))));refine WK.k6 9 rfl oR hasF165 rfl rfl (auj _ _ _ _ _ c j oO) λv w3 h'=>?_;obtain ⟨f0,hC,m2⟩:=h';rw[g6,g6] at f0;have l9:(wd (d1.m*d2.m)).length<=16384:=mul_len J.len I.len;have b:=b.ta hC;have a:=a.k0 hC;have p:=p.trans hC;refine ⟨p,?_⟩;refine WK.k6 15 rfl oR hasF164 rfl rfl (a1q _ _ _ _ _ f0 oO oO) λv w4 h'=>?_;obtain ⟨f1,c8⟩:=h';rw[g6,cuj J I] at f1;have b:=b.ta c8;have a:=a.k0 c8;have p:=p.trans c8;refine ⟨p,?_⟩;rcases f1 with ⟨r,d,hd,rfl,c6⟩|⟨hd,rfl⟩
   ·refine wk 16 rfl p (eX rfl rfl) (wk 17 rfl p (eX rfl rfl) ?_);refine WK.nQ 18 rfl oR oR rfl rfl rfl ao a oS rfl λi8 f Y=>?_;(try simp only[qt] at f);have b:=b.s1 Y;have c6:=c6.q8 a Y an;have a:=f;refine WK.after 19 rfl oR oR (Ev.assign rfl) rfl ?_;refine WK.done oR (a6 _ _ _ ?_);refine a8 ?_;refine zr (k8.gJ rfl (aX.cell rfl (a.fX rfl rfl)) (aX.tmp rfl) ?_);rw[R,C];exact ⟨.inl ⟨r,d,by exact hd,rfl,c6⟩,b⟩
   refine wk 16 rfl p (eX rfl rfl) (wk 17 rfl p (eX rfl rfl) ?_);refine WK.nQ 18 rfl oR oR rfl rfl rfl ao a oS rfl λi7 f c3=>?_;(try simp only[qt] at f);have b:=b.s1 c3;have a:=f;refine WK.after 19 rfl oR oR (Ev.assign rfl) rfl ?_;refine WK.done oR (a6 _ _ _ ?_);refine a8 ?_;refine zr (k8.gJ rfl (aX.cell rfl (a.fX rfl rfl)) (aX.tmp rfl) ?_);rw[R,C];exact ⟨.inr ⟨by exact hd,rfl⟩,b⟩
  refine zm rfl (zx rfl rfl (zx rfl rfl ?_));refine zAh rfl rfl b λb8 b5 k i l s b=>?_;have y:=zdd a.lt l;have a:=a.k0 i;refine zss rfl rfl ao k rfl λi6 o X=>?_;(try simp only[qt] at o);have b:=b.s1 X;have a:=a.kq X;refine za rfl (zz (d4 (zc λ_ k4=>Sr λ_ e1=>zm rfl (zT rfl (zm rfl (zw rfl (zm rfl (zw rfl (zT rfl (ze rfl rfl (zz (e1 ?_))))))))))));refine CW.nZ rfl ?_;refine Sr λ_ e0=>?_;refine WL.ev (Ev.build (vs:=_) (cs:=[_,_,_]) rfl rfl) rfl ?_;refine zss rfl rfl ao a rfl λi5 f c0=>?_;(try simp only[qt] at f);have b:=b.s1 c0;have a:=f;refine za rfl (zz (e0 ?_));refine zr (k8.gJ rfl (aX.cell rfl (a.fX rfl rfl)) (aX.tmp rfl) ?_);rw[C,alq];exact ⟨.inr ⟨rfl,rfl⟩,b⟩
 refine zm rfl (zx rfl rfl (zx rfl rfl ?_));refine zAh rfl rfl b λb6 g1 g n B T b=>?_;have A:=A.q5 n;have a3:=zdd h.lt B;have h:=h.k0 n;have a0:=zdd a.lt B;have a:=a.k0 n;refine zss rfl rfl ao g rfl λi4 O z=>?_;(try simp only[qt] at O);have b:=b.s1 z;have h:=h.kq z;have a:=a.kq z;have A:=A.q8 g z an;refine za rfl (zz (d5 (Sr λ_ a7=>zg h rfl ?_)));refine WL.call hasF154 rfl rfl (rQ nb vb lb eb _ A e9 e2) λv w5 h'=>?_;obtain ⟨c7,H⟩:=h';have b:=b.ta H;have a:=a.k0 H;rcases c7 with ⟨r2,d2,C,rfl,j⟩|⟨C,rfl⟩
 ·refine zm rfl (zx rfl rfl (zx rfl rfl ?_));refine zAh rfl rfl b λb8 b5 k i l s b=>?_;have y:=zdd a.lt l;have a:=a.k0 i;refine zss rfl rfl ao k rfl λi3 o V=>?_;(try simp only[qt] at o);have b:=b.s1 V;have a:=a.kq V;refine za rfl (zz (a7 (zc λ_ k3=>Sr λ_ d9=>zm rfl (zT rfl (zm rfl (zv rfl (zv rfl (zt rfl rfl (zz (d9 ?_))))))))));refine CW.nZ rfl ?_;refine Sr λ_ d8=>?_;refine WL.ev (Ev.build (vs:=_) (cs:=[_,_,_]) rfl rfl) rfl ?_;refine zss rfl rfl ao a rfl λi2 f b9=>?_;(try simp only[qt] at f);have b:=b.s1 b9;have a:=f;refine za rfl (zz (d8 ?_));refine zr (k8.gJ rfl (aX.cell rfl (a.fX rfl rfl)) (aX.tmp rfl) ?_);rw[R,aoj];exact ⟨.inr ⟨rfl,rfl⟩,b⟩
 refine zm rfl (zx rfl rfl (zx rfl rfl ?_));refine zAh rfl rfl b λb8 b5 k i l s b=>?_;have y:=zdd a.lt l;have a:=a.k0 i;refine zss rfl rfl ao k rfl λi1 o U=>?_;(try simp only[qt] at o);have b:=b.s1 U;have a:=a.kq U;refine za rfl (zz (a7 (zc λ_ k2=>Sr λ_ d7=>zm rfl (zT rfl (zm rfl (zv rfl (zv rfl (zt rfl rfl (zz (d7 ?_))))))))));refine CW.nZ rfl ?_;refine Sr λ_ d6=>?_;refine WL.ev (Ev.build (vs:=_) (cs:=[_,_,_]) rfl rfl) rfl ?_;refine zss rfl rfl ao a rfl λi0 f b7=>?_;(try simp only[qt] at f);have b:=b.s1 b7;have a:=f;refine za rfl (zz (d6 ?_));refine zr (k8.gJ rfl (aX.cell rfl (a.fX rfl rfl)) (aX.tmp rfl) ?_);rw[R,aoj];exact ⟨.inr ⟨rfl,rfl⟩,b⟩
theorem sgn_neg(a b:Nat): -(sgn a b)=sgn b a:=by unfold sgn;split<;>split<;>(try split)<;>omega
theorem sgn_pos{a b:Nat}(h:b<a):sgn a b=1:=by unfold sgn;rw[if_neg oO,if_pos h]
theorem sgn_lt{a b:Nat}(h:a<b):sgn a b = -1:=by unfold sgn;rw[if_pos h]
theorem sgn_mulr{a b:Nat}(h:a=0\/b=0)(d:Nat):sgn (a*2^d) b=sgn a b:=by
  have e:=Nat.two_pow_pos d
  rcases h with h|h
  · rw[h,Nat.zero_mul]
  · subst h
    rcases Nat.eq_zero_or_pos a with c|c
    · rw[c,Nat.zero_mul]
    · rw[sgn_pos c,sgn_pos (Nat.mul_pos c e)]
theorem bl_up_gt{m n d:Nat}(a:m≠0)(h:bl n<bl m+d):n<m*2^d:=by
  rw[<- adq a] at h
  exact Nat.lt_of_lt_of_le (cbq n) (caj.1 h)
theorem bl_up_lt{m n d:Nat}(a:m≠0)(h:bl m+d<bl n):m*2^d<n:=by
  rw[<- adq a] at h
  exact Nat.lt_of_lt_of_le (cbq _) (caj.1 h)
def c2x(m:Nat)(e:Int)(n:Nat)(f:Int):Int:=sgn (m*2^(e-min e f).toNat) (n*2^(f-min e f).toNat)
theorem blq(va Z:Value)(h j:List Nat)(e f:Int)(w:World)(D:NU w va h)(C:NU w Z j)(he : -9223372036854775808<=e/\e<=9223372036854775807)(hf : -9223372036854775808<=f/\f<=9223372036854775807)(a6:h.length<=17179869184)(a5:j.length<=17179869184)(a7:f<=e):Ret Tryz.prog 225 [va,.int .i64 e,Z,.int .i64 f] w λu w'=>u = .int .i64 (sgn (val h*2^(e-f).toNat) (val j))/\Chg [] w w':=by
 obtain ⟨d,hd⟩ : ∃ d:Nat,(d:Int)=e-f:=⟨(e-f).toNat,by omega⟩;rw[show (e-f).toNat=d by omega];have a9:=D;have a8:=C;have X:=uJ.2 (vX D.hw);have V:=uJ.2 (vX C.hw);have Q:=adj (n:=val h);have O:=adj (n:=val j);obtain ⟨i,hi⟩ : ∃ i,i=bl (val h):=⟨_,rfl⟩;obtain ⟨k,hk⟩ : ∃ k,k=bl (val j):=⟨_,rfl⟩;rw[<- hi] at X Q;rw[<- hk] at V O;have a:=crf w;refine zE4 Tryz.func225 rfl ?_;refine Sr λ_ M=>za rfl (zz (M (Sr λ_ J=>zm rfl ?_)));refine WL.call hasF223 rfl rfl (a9q _ _ _ (D.q5 a) oO) λv w1 b=>?_;obtain ⟨rfl,rfl⟩:=b;rw[<- hi];refine WL.ev (Ev.dZ rfl rfl (iZ oO)) rfl ?_;refine za rfl (zz (J (Sr λ_ I=>zm rfl ?_)));refine WL.call hasF223 rfl rfl (a9q _ _ _ (C.q5 a) oO) λv w2 b=>?_;obtain ⟨rfl,rfl⟩:=b;rw[<- hk];refine WL.ev (Ev.dZ rfl rfl (iZ oO)) rfl ?_;refine za rfl (zz (I (zc λ_ H=>?_)));refine CW.oJ 23 (decide (i=0\/k=0)) ?_ ?_
 ·refine zS λ_ l=>zm rfl (zq rfl rfl (zm rfl ?_));refine zb ?_ ?_<;>intro T<;>try simp only[qs] at T
  ·refine zv rfl (zv rfl (zt rfl rfl (zz (l ?_))));refine ⟨rfl,rfl,q9.g7 rfl ?_ ?_⟩
   ·first|(simp;omega)|(simp_all;done)|(refine decide_eq_decide.2 ?_;omega)
   exact SMg
  refine zw rfl (zm rfl (zw rfl (zq rfl rfl (ze rfl rfl (zz (l ?_))))));refine ⟨rfl,rfl,q9.g7 rfl ?_ ?_⟩
  ·first|(simp;omega)|(simp_all;done)|(refine decide_eq_decide.2 ?_;omega)
  exact SMg
 refine zy rfl ?_ ?_<;>intro g<;>try simp only[qs] at g
 ·have hz:=g
  refine Sr λ_ G=>zm rfl (zm rfl ?_);refine WL.call hasF174 rfl rfl (ayq _ _ _ _ _ (D.q5 a) (C.q5 a)) λv w3 b=>?_;obtain ⟨rfl,F⟩:=b;have a:=a.ta F;refine za rfl (zz (G ?_));refine zr (zr1 rfl rfl ?_);rw[sgn_mulr oO];exact ⟨rfl,a⟩
 have hz:=g;have z:val h≠0:=by omega
 refine zkk (H (zc λ_ y=>Sr λ_ x=>zm rfl (zm rfl (zL rfl rfl (zz (x ?_))))));refine zy rfl ?_ ?_<;>intro U<;>try simp only[qs] at U
 ·exfalso;omega
 refine zkk (y (Sr λ_ t=>zm rfl ?_));refine WL.ev (Ev.conv rfl rfl) rfl ?_;rw[vJ];refine zm rfl ?_;refine WL.ev (Ev.conv rfl rfl) rfl ?_;rw[vJ];refine WL.ev (Ev.sub rfl rfl) rfl ?_;rw[vJ,show (e%18446744073709551616-f%18446744073709551616)%18446744073709551616=((d:Nat):Int) by omega];refine za rfl (zz (t (zc λ_ s=>?_)));refine CW.oJ 49 (decide (1099511627776<d\/k<i+d)) ?_ ?_
 ·refine zS λ_ c=>zm rfl (zG rfl rfl (zm rfl ?_));refine zb ?_ ?_<;>intro R<;>try simp only[qs] at R
  ·refine zv rfl (zv rfl (zv rfl (zv rfl (zv rfl (zt rfl rfl (zz (c ?_)))))));refine ⟨rfl,rfl,q9.g7 rfl ?_ ?_⟩
   ·first|(simp;omega)|(simp_all;done)|(refine decide_eq_decide.2 ?_;omega)
   exact SMg
  refine zw rfl (zm rfl (zw rfl (zm rfl (zw rfl ?_))))
  first|refine WL.ev (Ev.iX rfl rfl oO) rfl ?_|refine WL.ev (Ev.aaq rfl rfl) rfl ?_
  refine zw rfl (zm rfl (zw rfl (zG rfl rfl (ze rfl rfl (zz (c ?_))))));refine ⟨rfl,rfl,q9.g7 rfl ?_ ?_⟩
  ·first|(simp;omega)|(simp_all;done)|(refine decide_eq_decide.2 ?_;omega)
  exact SMg
 refine zy rfl ?_ ?_<;>intro B<;>try simp only[qs] at B
 ·have hz:=B
  refine Sr λ_ r=>za rfl (zz (r ?_));refine zr (zr1 rfl rfl ?_);rw[sgn_pos (bl_up_gt z oO)];exact ⟨rfl,a⟩
 refine zkk (s (zc λ_ q=>Sr λ_ p=>zm rfl (zm rfl ?_)))
 first|refine WL.ev (Ev.iX rfl rfl oO) rfl ?_|refine WL.ev (Ev.aaq rfl rfl) rfl ?_
 refine zm rfl (zL rfl rfl (zz (p ?_)));refine zy rfl ?_ ?_<;>intro A<;>try simp only[qs] at A
 ·have a4:=A
  refine Sr λ_ o=>za rfl (zz (o ?_));refine zr (zr1 rfl rfl ?_);rw[sgn_lt (bl_up_lt z oO)];exact ⟨rfl,a⟩
 refine zkk (q (Sr λ_ m=>zm rfl (zm rfl ?_)));refine WL.ev (Ev.dZ rfl rfl (tQ oO)) rfl ?_;refine WL.call hasF172 rfl rfl (zZ _ _ _ (D.q5 a) d oO oO) λv w4 b=>?_;obtain ⟨Y,F,b0⟩:=b;have a:=a.ta F;refine zm rfl ?_;refine WL.call hasF174 rfl rfl (ayq _ _ _ _ _ Y (C.q5 a)) λv w5 b=>?_;obtain ⟨rfl,F⟩:=b;rw[g6];have a:=a.ta F;refine za rfl (zz (m ?_));refine zr (zr1 rfl rfl ?_);exact ⟨rfl,a⟩
theorem csq(M J:Value)(g d:List Nat)(e f:Int)(w:World)(q:NU w M g)(p:NU w J d)(V : -9223372036854775808<=e/\e<=9223372036854775807)(T : -9223372036854775808<=f/\f<=9223372036854775807)(C:g.length<=17179869184)(B:d.length<=17179869184)(U:e<f):Ret Tryz.prog 225 [M,.int .i64 e,J,.int .i64 f] w λu w'=>u = .int .i64 (sgn (val g) (val d*2^(f-e).toNat))/\Chg [] w w':=by
 have Y:=q;have X:=p;have H:=uJ.2 (vX q.hw);have G:=uJ.2 (vX p.hw);have A:=adj (n:=val g);have z:=adj (n:=val d);obtain ⟨i,R⟩ : ∃ i,i=bl (val g):=⟨_,rfl⟩;obtain ⟨k,Q⟩ : ∃ k,k=bl (val d):=⟨_,rfl⟩;rw[<- R] at H A;rw[<- Q] at G z;have c:=crf w;refine zE4 Tryz.func225 rfl ?_;refine Sr λ_ y=>za rfl (zz (y (Sr λ_ x=>zm rfl ?_)));refine WL.call hasF223 rfl rfl (a9q _ _ _ (q.q5 c) oO) λv w1 h=>?_;obtain ⟨rfl,rfl⟩:=h;rw[<- R];refine WL.ev (Ev.dZ rfl rfl (iZ oO)) rfl ?_;refine za rfl (zz (x (Sr λ_ t=>zm rfl ?_)));refine WL.call hasF223 rfl rfl (a9q _ _ _ (p.q5 c) oO) λv w2 h=>?_;obtain ⟨rfl,rfl⟩:=h;rw[<- Q];refine WL.ev (Ev.dZ rfl rfl (iZ oO)) rfl ?_;refine za rfl (zz (t (zc λ_ s=>?_)));refine CW.oJ 23 (decide (i=0\/k=0)) ?_ ?_
 ·refine zS λ_ j=>zm rfl (zq rfl rfl (zm rfl ?_));refine zb ?_ ?_<;>intro D<;>try simp only[qs] at D
  ·refine zv rfl (zv rfl (zt rfl rfl (zz (j ?_))));refine ⟨rfl,rfl,q9.g7 rfl ?_ ?_⟩
   ·first|(simp;omega)|(simp_all;done)|(refine decide_eq_decide.2 ?_;omega)
   exact SMg
  refine zw rfl (zm rfl (zw rfl (zq rfl rfl (ze rfl rfl (zz (j ?_))))));refine ⟨rfl,rfl,q9.g7 rfl ?_ ?_⟩
  ·first|(simp;omega)|(simp_all;done)|(refine decide_eq_decide.2 ?_;omega)
  exact SMg
 refine zy rfl ?_ ?_<;>intro o<;>try simp only[qs] at o
 ·have hz:=o
  refine Sr λ_ r=>zm rfl (zm rfl ?_);refine WL.call hasF174 rfl rfl (ayq _ _ _ _ _ (q.q5 c) (p.q5 c)) λv w3 h=>?_;obtain ⟨rfl,I⟩:=h;have c:=c.ta I;refine za rfl (zz (r ?_));refine zr (zr1 rfl rfl ?_);rw[<- sgn_neg (val d*2^(f-e).toNat) (val g),sgn_mulr oO,sgn_neg];exact ⟨rfl,c⟩
 refine zkk (s (zc λ_ O=>Sr λ_ m=>zm rfl (zm rfl (zL rfl rfl (zz (m ?_))))));refine zy rfl ?_ ?_<;>intro F<;>try simp only[qs] at F
 ·refine Sr λ_ l=>zm rfl (zm rfl (zm rfl (zm rfl ?_)));refine WL.call hasF225 rfl rfl (blq _ _ _ _ f e _ (p.q5 c) (q.q5 c) T V B C oO) λv Z h=>?_
  obtain ⟨rfl,I⟩:=h;have c:=c.ta I;refine WL.ev (Ev.bnq rfl (by have:=bhq (a:=val d*2^(f-e).toNat) (b:=val g);unfold sgn;split<;>(try split)<;>omega)) rfl ?_;rw[sgn_neg];refine za rfl (zz (l ?_));refine zr (zr1 rfl rfl ?_);exact ⟨rfl,c⟩
 exfalso;omega
theorem zX(i g:Value)(b a:List Nat)(e f:Int)(w:World)(m:NU w i b)(l:NU w g a)(k : -9223372036854775808<=e/\e<=9223372036854775807)(j : -9223372036854775808<=f/\f<=9223372036854775807)(d:b.length<=17179869184)(c:a.length<=17179869184):Ret Tryz.prog 225 [i,.int .i64 e,g,.int .i64 f] w λu w'=>u = .int .i64 (c2x (val b) e (val a) f)/\Chg [] w w':=by
  by_cases h:f<=e
  · have:=blq i g b a e f w m l k j d c h
    unfold c2x;rw[show e-min e f=e-f by omega,show (f-min e f).toNat=0 by omega,Nat.pow_zero,Nat.mul_one];exact this
  have:=csq i g b a e f w m l k j d c oO;unfold c2x;rw[show f-min e f=f-e by omega,show (e-min e f).toNat=0 by omega,Nat.pow_zero,Nat.mul_one];exact this
theorem tz_scale{m:Nat}(h:m≠0)(k:Nat):tz (m*2^k)=tz m+k:=by
  obtain ⟨b,a⟩:=akx h
  refine d1q (m:=m/2^tz m) ?_ b
  rw[Nat.pow_add,<- Nat.mul_assoc,<- a]
theorem abj{neg:Bool}{m k:Nat}{e f:Int}(g:f=e-(k:Int)):cQ neg (m*2^k) f=cQ neg m e:=by
  by_cases h0:m=0
  · subst h0;rw[Nat.zero_mul,jJ,jJ]
  · have d:=Nat.two_pow_pos k
    have c:m*2^k≠0:=Nat.mul_ne_zero h0 oO
    have a:=tz_scale h0 k
    have i:m*2^k/2^tz (m*2^k)=m/2^tz m:=by
      rw[a,Nat.pow_add,Nat.mul_comm (2^tz m),<- Nat.div_div_eq_div_mul,Nat.mul_div_cancel _ d]
    unfold cQ
    rw[if_neg c,if_neg h0,i,a,g]
    have b:(1048576-((tz m+k:Nat):Int)<e-(k:Int)\/e-(k:Int) < -1048576-((tz m+k:Nat):Int)\/8192<(wd (m/2^tz m)).length)↔(1048576-(tz m:Int)<e\/e < -1048576-(tz m:Int)\/8192<(wd (m/2^tz m)).length):=by omega
    by_cases h:1048576-(tz m:Int)<e\/e < -1048576-(tz m:Int)\/8192<(wd (m/2^tz m)).length
    · rw[if_pos (b.2 h),if_pos h]
    · rw[if_neg (λq=>h (b.1 q)),if_neg h,show e-(k:Int)+((tz m+k:Nat):Int)=e+(tz m:Int) by omega]
def InB(S:Int):Prop:=-((16384*BB:Nat):Int)<S/\S<(16384*BB:Nat)
theorem InB.lt{S:Int}(h:InB S):S.natAbs<2^4238:=by
  obtain ⟨b,a⟩:=h
  rw[<- b2q];omega
theorem akq{S:Int}(h:InB S){neg:Bool}(c:S≠0->neg=decide (S<0)):cQ neg S.natAbs (-2148)=some (dJ S):=by
  obtain ⟨b,a⟩:=h
  have e:=c4q b a (decide (S<0))
  unfold dJ
  rw[e,c4q b a neg,Option.getD_some]
  by_cases h0:S=0
  · rw[if_pos h0,if_pos h0]
  · rw[if_neg h0,if_neg h0,c h0]
theorem dex:dJ 0=Dy.zero:=rfl
theorem bwj{S:Int}(h:InB S)(c:S≠0):dJ S=⟨decide (S<0),S.natAbs/2^tz S.natAbs,-2148+tz S.natAbs⟩:=by
  obtain ⟨b,a⟩:=h
  unfold dJ
  rw[c4q b a,if_neg c,Option.getD_some]
theorem a1x{S:Int}(h:InB S):(dJ S).ok:=iJ (akq h (neg:=decide (S<0)) (λ_=>rfl))
theorem bkq{S:Int}(h:InB S):(dJ S).m=0↔S=0:=by
  constructor
  · intro a
    apply Classical.byContradiction
    intro b
    rw[bwj h b] at a
    have:=(akx (n:=S.natAbs) oO).1
    dsimp only at a
    rw[a] at this;simp at this
  · intro b;rw[b];rfl
theorem ddj{p c n:Nat}(h:n=p*2^c)(a:n<2^4238):(wd p).length<=8192:=by
  have b:p<=n:=by rw[h];exact Nat.le_mul_of_pos_right _ (Nat.two_pow_pos _)
  exact cdq (Nat.lt_of_le_of_lt b a) oD
theorem addD_sum{S T:Int}(o:InB S)(hT:InB T)(d:InB (S+T)):xX (dJ S) (dJ T)=some (dJ (S+T)):=by
  by_cases h0:S=0
  · subst h0
    rw[dex,Int.zero_add]
    unfold xX;rw[if_pos (show Dy.zero.m=0 from rfl)]
  by_cases h1:T=0
  · subst h1
    rw[dex,Int.add_zero]
    unfold xX;rw[if_neg (λq=>h0 ((bkq o).1 q)),if_pos (show Dy.zero.m=0 from rfl)]
  obtain ⟨-,C⟩:=akx (n:=S.natAbs) oO
  obtain ⟨-,B⟩:=akx (n:=T.natAbs) oO
  have l:=bwj o h0
  have j:=bwj hT h1
  have s:(dJ S).m≠0:=λq=>h0 ((bkq o).1 q)
  have r:(dJ T).m≠0:=λq=>h1 ((bkq hT).1 q)
  have u:=o.lt
  have t:=hT.lt
  generalize tz S.natAbs=a at *
  generalize tz T.natAbs=b at *
  generalize hX:S.natAbs/2^a=X at *
  generalize hY:T.natAbs/2^b=Y at *
  obtain ⟨c,G⟩ : ∃ c,c=min a b:=⟨_,rfl⟩
  have A:min (dJ S).e (dJ T).e = -2148+(c:Int):=by rw[l,j];dsimp only;omega
  have w:((dJ S).e-(-2148+(c:Int))).toNat=a-c:=by rw[l];dsimp only;omega
  have v:((dJ T).e-(-2148+(c:Int))).toNat=b-c:=by rw[j];dsimp only;omega
  have h:S.natAbs=X*2^(a-c)*2^c:=by rw[Nat.mul_assoc,<- Nat.pow_add,show a-c+c=a by omega];exact C
  have g:T.natAbs=Y*2^(b-c)*2^c:=by rw[Nat.mul_assoc,<- Nat.pow_add,show b-c+c=b by omega];exact B
  rw[xQ s r rfl rfl,A,w,v]
  rw[show (dJ S).m=X by rw[l],show (dJ T).m=Y by rw[j],show (dJ S).neg=decide (S<0) by rw[l],show (dJ T).neg=decide (T<0) by rw[j]]
  generalize X*2^(a-c)=p at *
  generalize Y*2^(b-c)=q at *
  have F:=ddj h u
  have D:=ddj g t
  rw[if_neg oO]
  have y:=Nat.two_pow_pos c
  by_cases hs:decide (S<0)=decide (T<0)
  · rw[if_pos hs,<- abj (k:=c) (f:=-2148) oO,Nat.add_mul,<- h,<- g]
    have i:S<0↔T<0:=by simpa using hs
    have e:S.natAbs+T.natAbs=(S+T).natAbs:=by omega
    rw[e]
    exact akq d λ_=>decide_eq_decide.2 oO
  · have i : ¬(S<0↔T<0):=λq=>hs (decide_eq_decide.2 q)
    rw[if_neg hs]
    by_cases hlt:p<q
    · have x:S.natAbs<T.natAbs:=by rw[h,g];exact Nat.mul_lt_mul_of_pos_right hlt y
      rw[if_pos hlt,<- abj (k:=c) (f:=-2148) oO,Nat.sub_mul,<- h,<- g,show T.natAbs-S.natAbs=(S+T).natAbs by omega]
      exact akq d λ_=>decide_eq_decide.2 oO
    · have x:T.natAbs<=S.natAbs:=by rw[h,g];exact Nat.mul_le_mul_right _ oO
      rw[if_neg hlt,<- abj (k:=c) (f:=-2148) oO,Nat.sub_mul,<- h,<- g,show S.natAbs-T.natAbs=(S+T).natAbs by omega]
      exact akq d λz=>decide_eq_decide.2 oO
theorem b0x{x:Nat}: k7 x<=2↔(j0 x).cls<=2:=by
  unfold k7 j0
  by_cases a:x/4503599627370496%2048=2047/\x%4503599627370496≠0
  · rw[if_pos a];simp
  · rw[if_neg a]
    by_cases b:x/4503599627370496%2048=2047
    · rw[if_pos b];by_cases d:x/9223372036854775808%2=1<;>simp[d]
    · rw[if_neg b]
      by_cases d:0<x/4503599627370496%2048
      · rw[if_pos d];simp
      · rw[if_neg d]
        by_cases f:0<x%4503599627370496
        · rw[if_pos f];simp
        · rw[if_neg f];by_cases g:x/9223372036854775808%2=1<;>simp[g]
theorem dpj(x:Nat):InB (fvI x):=by
  have h:=sumI_in (l:=[x]) oS
  have:axq [x]=fvI x:=by simp[axq]
  rw[this] at h;exact h
theorem dej(x:Nat):(fvI x).natAbs=fvN x:=by unfold fvI;split<;>omega
theorem cnq{x:Nat}(h : ¬((j0 x).cls=1\/(j0 x).cls=2)):fvI x=0:=by
  unfold fvI fvN;rw[if_neg h];split<;>rfl
theorem dqq{x:Nat}(n:x<18446744073709551616)(h:(j0 x).cls<=2):dqj x=some (dJ (fvI x)):=by
  have o:=uZ n
  have c:=b0x.2 h
  have j : ¬9218868437227405312<=x%9223372036854775808:=λq=>by
    rw[o] at c
    by_cases a:9218868437227405312<x%9223372036854775808
    · rw[if_pos a] at c;omega
    · rw[if_neg a] at c
      by_cases b:x/9223372036854775808=1
      · rw[if_pos ⟨by omega,b⟩] at c;omega
      · rw[if_neg (λq=>b q.2),if_pos oO] at c;omega
  unfold dqj dtj
  rw[if_neg j]
  have m:anj (x%9223372036854775808)*2^(pZ (x%9223372036854775808)+2148).toNat=fvN x/\(fvN x≠0->decide (x/9223372036854775808=1)=(j0 x).neg):=by
    have i:x%9223372036854775808/4503599627370496=x/4503599627370496%2048:=by omega
    have g:x%9223372036854775808%4503599627370496=x%4503599627370496:=by omega
    have e : ¬x/4503599627370496%2048=2047:=by omega
    unfold anj pZ fvN j0
    rw[i,g,if_neg (show ¬(x/4503599627370496%2048=2047/\x%4503599627370496≠0) from λq=>e q.1),if_neg e]
    have l:decide (x/9223372036854775808=1)=decide (x/9223372036854775808%2=1):=decide_eq_decide.2 oO
    by_cases d:0<x/4503599627370496%2048
    · rw[if_neg (show ¬x/4503599627370496%2048=0 by omega),if_neg (show ¬x/4503599627370496%2048=0 by omega),if_pos d,if_pos (.inr rfl)]
      exact ⟨by rw[Nat.add_comm],λ_=>l⟩
    · rw[if_pos (show x/4503599627370496%2048=0 by omega),if_pos (show x/4503599627370496%2048=0 by omega),if_neg d]
      by_cases f:0<x%4503599627370496
      · rw[if_pos f,if_pos (.inl rfl)]
        exact ⟨rfl,λ_=>l⟩
      · rw[if_neg f,if_neg oS,show x%4503599627370496=0 by omega,Nat.zero_mul]
        exact ⟨rfl,λq=>absurd rfl q⟩
  have s:=(a0q (x%9223372036854775808) oO).1
  rw[<- abj (k:=(pZ (x%9223372036854775808)+2148).toNat) (f:=-2148) oO,m.1,<- dej]
  refine akq (dpj x) λr=>?_
  have p:fvN x≠0:=by rw[<- dej];omega
  rw[m.2 p]
  unfold fvI
  cases hg:(j0 x).neg
  · rw[if_neg oD];exact (decide_eq_false oO).symm
  · rw[if_pos rfl];exact (decide_eq_true oO).symm
theorem b6q(x:Nat):k7 x<=5:=by unfold k7;repeat (first|omega|split)
theorem r11may_spec(b:Nat)(nn nd:Bool)(vn vd:Value)(ln R:List Nat)(en ed:Int)(w:World)(l:BK w b 161 [.bool nn,vn,.int .i64 en,.bool nd,vd,.int .i64 ed])(hn:NU w vn ln)(A:NU w vd R)(i8 : -9223372036854775808<=en/\en<=9223372036854775807)(g1 : -9223372036854775808<=ed/\ed<=9223372036854775807)(i7:ln.length<=34359738368)(f6:R.length<=34359738368):Ret Tryz.prog 236 [.slice (some ⟨b,0,none⟩) 1 1] w λu w'=>FmR w' u (cQ nn (val ln) en) (cQ nd (val R) ed) (sgD nd (val R))/\Chg [] w w':=by
 have a:=crf w;have h4:=l;have f4:=hn;have g2:=A;have m7:=hn.one;have m8:=A.one;refine zE1 Tryz.func236 rfl ?_;refine Sr λ_ i5=>za rfl (za rfl (zz (i5 (zc λ_ i4=>Sr λ_ i3=>za rfl (zz (i3 (CW.block ?_)))))));refine CW.loop (S:=λi:Nat=>[(0,.slice (some ⟨b,0,none⟩) 1 1),(4,.int .i64 (i:Int))]) (Inv:=KF1 (sgD nd (val R)) w) (mu:=λi=>1-i) (0) ?_ ?_ ?_
 ·exact ⟨by decide,λh=>(by cases h),a⟩
 ·exact SLp
 rintro i wr ⟨b2,C,a⟩;have l:=h4.q5 a;have hn:=f4.q5 a;have A:=g2.q5 a;refine zc λ_ i2=>Sr λ_ i1=>zm rfl (zm rfl (zn rfl (zL rfl rfl (zz (i1 ?_)))));refine zy rfl ?_ ?_<;>intro k3<;>try simp only[qs] at k3
 ·have o:i=0:=by omega
  subst o;refine zkk (i2 (zc λ_ i0=>CW.block (Sr λ_ f2=>zm rfl (zm rfl ?_))));refine WL.ev (Ev.indexAddr rfl rfl oO oO) rfl ?_;rw[show 0+((0:Nat):Int).toNat*6=0 from rfl];refine zf rfl ?_;refine WL.ev (Ev.fQ rfl rfl l rfl rfl) rfl ?_
  try simp only[oL]
  refine WL.call hasF157 rfl rfl (bex nd vd R ed _ A oO) λv w1 h'=>?_;obtain ⟨rfl,h3⟩:=h';have a:=a.ta h3;refine zL rfl rfl (zz (f2 ?_));refine zy rfl ?_ ?_<;>intro b4<;>try simp only[qs] at b4
  ·have a9:sgD nd (val R)<0:=b4
   refine Sr λ_ f1=>za rfl (za rfl (zz (f1 ?_)));refine zr (zr2 rfl rfl rfl ?_);exact ⟨.inl ⟨a9,rfl⟩,a⟩
  have a9:0<=sgD nd (val R):=by have:=b4;omega
  refine zkk (i0 (zS λ_ c8=>zm rfl ?_));(first|refine zi rfl rfl ?_|refine zo rfl rfl ?_);refine za rfl (zz (c8 ?_));refine ⟨rfl,1,?_,?_,?_⟩
  ·exact SLp
  ·exact ⟨by decide,λ_=>a9,a⟩
  decide
 have o:i=1:=by omega
 subst o;have C:=C rfl;refine CW.exit ?_;refine i4 (Sr λ_ f0=>za rfl (zz (f0 (zc λ_ e9=>Sr λ_ e8=>za rfl (zz (e8 (CW.block ?_)))))));refine CW.loop (S:=λg:Nat×Value=>[(0,.slice (some ⟨b,0,none⟩) 1 1),(5,g.2),(6,.int .i64 (g.1:Int))]) (Inv:=KF2 (cQ nn (val ln) en) (cQ nd (val R) ed) w) (mu:=λg=>1-g.1) ((0,.slice none 0 0)) ?_ ?_ ?_
 ·exact ⟨by decide,λ_=>rfl,λh=>(by cases h),a⟩
 ·exact SLp
 rintro ⟨i,vo⟩ wr ⟨b2,hz,ho,a⟩;dsimp only at b2 hz ho a;dsimp only;have l:=h4.q5 a;have hn:=f4.q5 a;have A:=g2.q5 a;refine zc λ_ e7=>Sr λ_ e6=>zm rfl (zm rfl (zn rfl (zL rfl rfl (zz (e6 ?_)))));refine zy rfl ?_ ?_<;>intro k2<;>try simp only[qs] at k2
 ·have o:i=0:=by omega
  subst o;obtain rfl:=hz rfl;refine zkk (e7 (zc λ_ e5=>CW.block (Sr λ_ a5=>zm rfl (zm rfl ?_))));refine WL.ev (Ev.indexAddr rfl rfl oO oO) rfl ?_;rw[show 0+((0:Nat):Int).toNat*6=0 from rfl];refine zf rfl ?_;refine WL.ev (Ev.fQ rfl rfl l rfl rfl) rfl ?_
  try simp only[oL]
  refine WL.call hasF154 rfl rfl (rQ nn vn ln en _ hn i8 i7) λv w2 h'=>?_;obtain ⟨h2,Y⟩:=h';have a:=a.ta Y;have l:=l.q5 Y;have A:=A.q5 Y;rcases h2 with ⟨rx,O,z,rfl,d⟩|⟨z,rfl⟩
  ·refine zm rfl (zx rfl rfl (zx rfl rfl ?_));refine zAh rfl rfl a λb7 h8 k x f7 U a=>?_;have A:=A.q5 x;have d:=d.q5 x;have b1:b≠b7:=by have:=l.lt;omega
   have l:=l.q5 x;refine zss rfl rfl ao k rfl λm3 M J=>?_;(try simp only[qt] at M);have a:=a.s1 J;have l:=l.kq J;have A:=A.q8 k J an;have d:=d.q8 k J an;have k:=M;refine za rfl (zz (a5 (Sr λ_ a4=>zm rfl (zm rfl ?_))));refine WL.ev (Ev.indexAddr rfl rfl oO oO) rfl ?_;rw[show 0+((0:Nat):Int).toNat*6=0 from rfl];refine zf rfl ?_;refine WL.ev (Ev.fQ rfl rfl l rfl rfl) rfl ?_
   try simp only[oL]
   refine WL.call hasF154 rfl rfl (rQ nd vd R ed _ A g1 f6) λv w3 h'=>?_;obtain ⟨X,s⟩:=h';have a:=a.ta s;have l:=l.q5 s;have k:=k.k0 s;have d:=d.q5 s;rcases X with ⟨Q,G,q,rfl,f⟩|⟨q,rfl⟩
   ·refine zm rfl (zx rfl rfl (zx rfl rfl ?_));refine zAh rfl rfl a λb9 a8 r t H p a=>?_;have d:=d.q5 t;have f:=f.q5 t;have D:b≠b9:=by have:=l.lt;omega
    have h7:=zdd k.lt H;have k:=k.k0 t;refine zss rfl rfl ao r rfl λm2 n I=>?_;(try simp only[qt] at n);have a:=a.s1 I;have k:=k.kq I;have d:=d.q8 r I an;have f:=f.q8 r I an;have r:=n;refine za rfl (zz (a4 (zc λ_ e4=>Sr λ_ e3=>zm rfl (zT rfl (zm rfl (zw rfl (zm rfl (zw rfl (zT rfl (ze rfl rfl (zz (e3 ?_))))))))))));refine CW.oX rfl ?_;refine zkk (e4 ?_);refine zR λ_ c7=>?_;refine zm rfl (zg k rfl (zg r rfl ?_));refine WL.ev (Ev.build (vs:=_) (cs:=[_,_,_,_,_,_]) rfl rfl) rfl ?_;refine WL.buildSlice (m:=1) (cs:=[.bool O.neg,rx,.int .i64 O.e,.bool G.neg,Q,.int .i64 G.e]) oD oD rfl oR rfl λk5 c2 a6=>?_;have F:=a6.chg;have g9:BK c2 k5 _ [.bool O.neg,rx,.int .i64 O.e,.bool G.neg,Q,.int .i64 G.e]:=a6.at_;have a:=a.trans F;have d:=d.q5 F;have f:=f.q5 F;have b0:=RC.of_BK g9;refine WL.append (news:=[.bool O.neg,rx,.int .i64 O.e,.bool G.neg,Q,.int .i64 G.e]) (xs:=[]) (m:=0) (by rfl) oD rfl rfl ⟨rfl,.inl ⟨rfl,rfl⟩⟩ rfl b0 (by intro v hv;simp only[List.mem_cons,List.not_mem_nil,or_false] at hv;rcases hv with rfl|rfl|rfl|rfl|rfl|rfl<;>first|rfl|exact NU.one oA) oD oD rfl λm4 c1 f3 B l7=>?_;have B:Chg [] c2 c1:=by simpa[Value.ownBlock] using B
    have a:=a.trans B;have d:=d.q5 B;have f:=f.q5 B;rcases bmx f3 with ⟨_,h0,_⟩|⟨b6,Z,rfl,_,_,a1⟩
    · cases h0
    have y:RC c1 ⟨b6,0,none⟩ (clx O G rx Q):=λj v hv=>by rw[awx,Nat.zero_add];exact a1 j v hv
    refine za rfl ?_;refine WL.nil (c7 _ _ _ (e5 ?_));refine zS λ_ c6=>zm rfl ?_;(first|refine zi rfl rfl ?_|refine zo rfl rfl ?_);refine za rfl (zz (c6 ?_));refine ⟨rfl,(1,.slice (some ⟨b6,0,none⟩) 1 Z),?_,?_,?_⟩
    ·exact SLp
    ·exact ⟨Nat.le_refl 1,λh=>(by cases h),λ_=>⟨O,G,b6,Z,rx,Q,z,q,rfl,y,d,f⟩,a⟩
    show 1-1<1-0;decide
   refine zm rfl (zx rfl rfl (zx rfl rfl ?_));refine zAh rfl rfl a λb9 a8 r t H p a=>?_;have D:b≠b9:=by have:=l.lt;omega
   refine zss rfl rfl ao r rfl λm1 n g5=>?_;(try simp only[qt] at n);have a:=a.s1 g5;refine za rfl (zz (a4 (zc λ_ l4=>Sr λ_ e2=>zm rfl (zT rfl (zm rfl (zw rfl (zm rfl (zw rfl (zT rfl (ze rfl rfl (zz (e2 ?_))))))))))));refine CW.nZ rfl ?_;refine Sr λ_ e1=>za rfl (za rfl (zz (e1 ?_)));refine zr (zr2 rfl rfl rfl ?_);exact ⟨.inr (.inl ⟨C,by first|exact .inl z|exact .inr q,rfl⟩),a⟩
  refine zm rfl (zx rfl rfl (zx rfl rfl ?_));refine zAh rfl rfl a λb7 h8 k x f7 U a=>?_;have A:=A.q5 x;have b1:b≠b7:=by have:=l.lt;omega
  have l:=l.q5 x;refine zss rfl rfl ao k rfl λm0 M V=>?_;(try simp only[qt] at M);have a:=a.s1 V;have l:=l.kq V;have A:=A.q8 k V an;refine za rfl (zz (a5 (Sr λ_ a3=>zm rfl (zm rfl ?_))));refine WL.ev (Ev.indexAddr rfl rfl oO oO) rfl ?_;rw[show 0+((0:Nat):Int).toNat*6=0 from rfl];refine zf rfl ?_;refine WL.ev (Ev.fQ rfl rfl l rfl rfl) rfl ?_
  try simp only[oL]
  refine WL.call hasF154 rfl rfl (rQ nd vd R ed _ A g1 f6) λv w4 h'=>?_;obtain ⟨X,s⟩:=h';have a:=a.ta s;have l:=l.q5 s;rcases X with ⟨Q,G,q,rfl,f⟩|⟨q,rfl⟩
  ·refine zm rfl (zx rfl rfl (zx rfl rfl ?_));refine zAh rfl rfl a λb9 a8 r t H p a=>?_;have D:b≠b9:=by have:=l.lt;omega
   refine zss rfl rfl ao r rfl λl9 n g4=>?_;(try simp only[qt] at n);have a:=a.s1 g4;refine za rfl (zz (a3 (zc λ_ l3=>Sr λ_ e0=>zm rfl (zT rfl (zm rfl (zv rfl (zv rfl (zt rfl rfl (zz (e0 ?_))))))))));refine CW.nZ rfl ?_;refine Sr λ_ d9=>za rfl (za rfl (zz (d9 ?_)));refine zr (zr2 rfl rfl rfl ?_);exact ⟨.inr (.inl ⟨C,by first|exact .inl z|exact .inr q,rfl⟩),a⟩
  refine zm rfl (zx rfl rfl (zx rfl rfl ?_));refine zAh rfl rfl a λb9 a8 r t H p a=>?_;have D:b≠b9:=by have:=l.lt;omega
  refine zss rfl rfl ao r rfl λl8 n g3=>?_;(try simp only[qt] at n);have a:=a.s1 g3;refine za rfl (zz (a3 (zc λ_ l2=>Sr λ_ d8=>zm rfl (zT rfl (zm rfl (zv rfl (zv rfl (zt rfl rfl (zz (d8 ?_))))))))));refine CW.nZ rfl ?_;refine Sr λ_ d7=>za rfl (za rfl (zz (d7 ?_)));refine zr (zr2 rfl rfl rfl ?_);exact ⟨.inr (.inl ⟨C,by first|exact .inl z|exact .inr q,rfl⟩),a⟩
 have o:i=1:=by omega
 subst o;obtain ⟨O,G,ad,c,rx,Q,g0,f9,rfl,y,d,f⟩:=ho rfl;refine CW.exit ?_;refine e9 (zc λ_ d6=>Sr λ_ d5=>za rfl (zz (d5 (CW.block ?_))));refine CW.loop (S:=λi:Nat=>[(5,.slice (some ⟨ad,0,none⟩) 1 c),(11,.int .i64 (i:Int))]) (Inv:=KF3 O G rx Q ad w) (mu:=λi=>1-i) (0) ?_ ?_ ?_
 ·exact ⟨by decide,λh=>(by cases h),y,d,f,a⟩
 ·exact SLp
 rintro i wr ⟨b2,i6,y,d,f,a⟩;have m6:=y.lt (by simp[clx]);refine zc λ_ d4=>Sr λ_ d3=>zm rfl (zm rfl (zn rfl (zL rfl rfl (zz (d3 ?_)))));refine zy rfl ?_ ?_<;>intro k1<;>try simp only[qs] at k1
 ·have o:i=0:=by omega
  subst o;have h1:=f;obtain ⟨⟨ay,cy,f8,i9,m5⟩,n0,m9⟩:=h1;refine zkk (d4 (zc λ_ d2=>CW.block (Sr λ_ d1=>zm rfl (zm rfl ?_))));refine WL.ev (Ev.indexAddr rfl rfl oO oO) rfl ?_;rw[show 0+((0:Nat):Int).toNat*6=0 from rfl];refine zf rfl (zf rfl ?_);refine WL.ev (Ev.load (v:=Q) rfl rfl (y 4 Q rfl)) rfl ?_;rw[f8];refine zn rfl (zq rfl rfl (zz (d1 ?_)));refine zy rfl ?_ ?_<;>intro b3<;>try simp only[qs] at b3
  ·have T:G.m=0:=rZ.1 (List.length_eq_zero_iff.1 oO);refine Sr λ_ d0=>za rfl (za rfl (zz (d0 ?_)));refine zr (zr2 rfl rfl rfl ?_);exact ⟨.inr (.inr (.inl ⟨C,O,G,g0,f9,T,rfl⟩)),a⟩
  have T:G.m≠0:=λe=>by rw[e,eJ] at b3;exact b3 rfl
  refine zkk (d2 (zS λ_ c5=>zm rfl ?_));(first|refine zi rfl rfl ?_|refine zo rfl rfl ?_);refine za rfl (zz (c5 ?_));refine ⟨rfl,1,?_,?_,?_⟩
  ·exact SLp
  ·exact ⟨by decide,λ_=>T,y,d,f,a⟩
  decide
 have o:i=1:=by omega
 subst o;have T:=i6 rfl;refine CW.exit ?_;refine d6 (Sr λ_ c9=>zm rfl (za rfl (za rfl (zz (c9 ?_)))));refine zr (zr2 rfl rfl rfl ?_);exact ⟨.inr (.inr (.inr ⟨C,O,G,g0,f9,T,ad,c,rx,Q,rfl,y,d,f⟩)),a⟩
theorem a3j(H:Value)(t:List Nat)(e:Int)(O Q:Bool)(F G:Value)(r s:List Nat)(p q:Int)(w:World)(k:NU w H t)(he : -1099511627776<=e/\e<=1099511627776)(Z:t.length<=1000000)(h:NU w F r)(i:NU w G s)(a0 : -1048576<=p/\p<=1048576)(a1 : -1048576<=q/\q<=1048576)(X:r.length<=8192)(Y:s.length<=8192):Ret Tryz.prog 257 [H,.int .i64 e,.agg [.bool O,F,.int .i64 p,.bool Q,G,.int .i64 q].toArray,.bool false] w λu w'=>u = .int .i64 (c2x (val t*val s) (e+q) (val r) p)/\Chg [] w w':=by
 have b:=crf w;have T:=h.one;have U:=i.one;have V:=k.one;refine zE4 Tryz.func257 rfl ?_;refine Sr λ_ B=>?_;refine zBh rfl rfl rfl b λb6 M j g J o b=>?_;have k:=k.q5 g;have h:=h.q5 g;have i:=i.q5 g;refine za rfl (zz (B (Sr λ_ A=>zm rfl (za rfl (zz (A (Sr λ_ z=>zm rfl (za rfl (zz (z (zc λ_ y=>Sr λ_ x=>zm rfl (zz (x ?_)))))))))))));refine CW.oX rfl ?_;refine zkk (y (zc λ_ n=>?_));refine CW.bZ 18 rfl cJ λI m a f=>?_;have b:=b.ta f;have j:=j.k0 f;have k:=k.q5 f;have h:=h.q5 f;have i:=i.q5 f;have c:=j;refine wh 0 rfl a (eM rfl) (wh 1 rfl a (eF rfl) (wh 2 rfl a (eF rfl) (wh 3 rfl a (λ_ d=>Ev.load rfl rfl ((c.q5 d).at_ rfl)) (wh 5 rfl a (eM rfl) (wh 6 rfl a (eF rfl) (wh 7 rfl a (eF rfl) (wh 8 rfl a (λ_ d=>Ev.load rfl rfl ((c.q5 d).at_ rfl)) (wh 9 rfl a (λ_ _=>Ev.jZ rfl rfl oO) (wh 10 rfl a (eF rfl) (wh 11 rfl a (eF rfl) (wh 12 rfl a (λ_ d=>Ev.load rfl rfl ((c.q5 d).at_ rfl)) (wh 13 rfl a (eF rfl) (wh 14 rfl a (eF rfl) (wh 15 rfl a (λ_ d=>Ev.load rfl rfl ((c.q5 d).at_ rfl)) ?_))))))))))))));refine WH.k6 4 rfl oR hasF165 rfl rfl (auj _ _ _ _ _ k i oO) λv w1 D=>?_;obtain ⟨C,l,hF⟩:=D;have R:=mul_len (bX k.hw) (bX i.hw);have b:=b.ta l;have h:=h.q5 l;have a:=a.trans l;refine ⟨a,?_⟩;refine WH.k6 16 rfl oR hasF225 rfl rfl (zX _ _ _ _ _ _ _ C h oO oO oO oO) λv w2 D=>?_;obtain ⟨rfl,l⟩:=D;rw[g6];have b:=b.ta l;have a:=a.trans l;refine ⟨a,?_⟩;refine wh 17 rfl a (eA rfl) ?_;refine WH.done oR (m _ _ _ ?_);refine n ?_;refine zr (zr1 rfl rfl ?_);exact ⟨rfl,b⟩
theorem nz_num(k:Nat):nz k=anj k*2^(pZ k+1074).toNat:=by
  unfold nz anj pZ
  by_cases h:k<4503599627370496
  · rw[if_pos h,if_pos (show k/4503599627370496=0 by omega),if_pos (show k/4503599627370496=0 by omega),show k%4503599627370496=k by omega]
    simp
  · rw[if_neg h,if_neg (show ¬k/4503599627370496=0 by omega),if_neg (show ¬k/4503599627370496=0 by omega),show (-1074+((k/4503599627370496:Nat):Int)-1+1074).toNat=k/4503599627370496-1 by omega]
theorem ctj(k:Nat):pZ k<=pZ (k+1)/\pZ (k+1)<=pZ k+1:=by
  unfold pZ
  by_cases h:k/4503599627370496=0
  · rw[if_pos h]
    by_cases h2:(k+1)/4503599627370496=0
    · rw[if_pos h2];omega
    · rw[if_neg h2];omega
  · rw[if_neg h,if_neg (show ¬(k+1)/4503599627370496=0 by omega)];omega
theorem sgn_scale(x y c:Nat):sgn (x*2^c) (y*2^c)=sgn x y:=by
  have a:=Nat.two_pow_pos c
  have d:x*2^c<y*2^c↔x<y:=Nat.mul_lt_mul_right a
  have b:y*2^c<x*2^c↔y<x:=Nat.mul_lt_mul_right a
  unfold sgn
  simp only[d,b]
theorem cox{m n a b:Nat}{e f:Int}(h:(a:Int)-b=e-f):c2x m e n f=sgn (m*2^a) (n*2^b):=by
  unfold c2x
  obtain ⟨c,g,d⟩ : ∃ c,a=(e-min e f).toNat+c/\b=(f-min e f).toNat+c:=by
    rcases Int.le_total e f with q|q
    · exact ⟨a,by omega,by omega⟩
    · exact ⟨b,by omega,by omega⟩
  rw[g,d,Nat.pow_add,Nat.pow_add,<- Nat.mul_assoc,<- Nat.mul_assoc,sgn_scale]
theorem cmp_num{x y:Nat}{ex ey:Int}{k:Nat}(c:k<18446744073709551616):c2x (anj k*y) (pZ k+ey) x ex=sgn (2*nz k*(y*dyB (ex-ey))) (dyA x (ex-ey)):=by
  have d:=(a0q k c).1
  unfold dyA dyB
  rw[nz_num,cox (a:=(pZ k+1074).toNat+1+(-(ex-ey+1075)).toNat) (b:=(ex-ey+1075).toNat) oO]
  congr 1
  rw[Nat.pow_add,Nat.pow_succ]
  simp only[Nat.mul_comm,Nat.mul_left_comm,Nat.mul_assoc]
theorem cmp_mid{x y:Nat}{ex ey:Int}{k d:Nat}(c:k<9223372036854775808)(f:(d:Int)=pZ (k+1)-pZ k):c2x ((anj k+anj (k+1)*2^d)*y) (pZ k-1+ey) x ex=sgn ((nz k+nz (k+1))*(y*dyB (ex-ey))) (dyA x (ex-ey)):=by
  have g:=(a0q k oO).1
  have e:nz k+nz (k+1)=(anj k+anj (k+1)*2^d)*2^(pZ k+1074).toNat:=by
    rw[nz_num,nz_num,show (pZ (k+1)+1074).toNat=d+(pZ k+1074).toNat by omega,Nat.pow_add,Nat.add_mul,Nat.mul_assoc]
  unfold dyA dyB
  rw[e,cox (a:=(pZ k+1074).toNat+(-(ex-ey+1075)).toNat) (b:=(ex-ey+1075).toNat) oO]
  congr 1
  rw[Nat.pow_add]
  simp only[Nat.mul_comm,Nat.mul_left_comm,Nat.mul_assoc]
theorem pX{A B k:Nat}{neg:Bool}{mode:Int}{r:Nat}(d:k<9218868437227405312)(f:2*nz k*B<=A)(e:A<2*nz (k+1)*B\/k+1=9218868437227405312)(b:2*nz k*B≠A){on:Bool}(a:upM mode neg k A ((nz k+nz (k+1))*B)=on)(c:r=if on=true then k+1 else k):lZ A B neg mode r:=
  ⟨k,d,f,e,by rw[if_neg b,a,c]⟩
theorem near_eq{A B k:Nat}{neg:Bool}{mode:Int}(b:k<9218868437227405312)(c:A<2*nz (k+1)*B\/k+1=9218868437227405312)(a:2*nz k*B=A):lZ A B neg mode k:=
  ⟨k,b,Nat.le_of_eq a,c,by rw[if_pos a]⟩
theorem b2j{neg:Bool}{k A M:Nat}: upM 0 neg k A M=(decide (M<A)||(decide (M=A)&&decide (k%2=1))):=by unfold upM;rw[if_pos rfl]
theorem up_up{neg:Bool}{k A M:Nat}: upM 2 neg k A M = !neg:=by unfold upM;rw[if_neg oD,if_pos rfl]
theorem up_down{neg:Bool}{k A M:Nat}: upM 3 neg k A M=neg:=by unfold upM;rw[if_neg oD,if_neg oD,if_pos rfl]
theorem up_away{neg:Bool}{k A M:Nat}: upM 4 neg k A M=decide (M<=A):=by unfold upM;rw[if_neg oD,if_neg oD,if_neg oD,if_pos rfl]
theorem up_zero{neg:Bool}{k A M:Nat}: upM 1 neg k A M=false:=by unfold upM;rw[if_neg oD,if_neg oD,if_neg oD,if_neg oD]
structure KNb(x y:Dy)(A B:Nat)(w0:World)(b4 b5:Nat)(vn vd:Value)(g:Nat×Nat)(w:World):Prop where
  lt:g.1<g.2
  le:g.2<=9218868437227405312
  lo:2*nz g.1*B<=A
  hi:A<2*nz g.2*B\/g.2=9218868437227405312
  h4:BK w b4 219 [.int .i64 53,.int .i64 (-1074),.int .u64 9218868437227405312]
  h5:BK w b5 161 [.bool x.neg,vn,.int .i64 x.e,.bool y.neg,vd,.int .i64 y.e]
  hn:NU w vn (wd x.m)
  hd:NU w vd (wd y.m)
  ch:Chg [] w0 w
theorem bfq(k:Nat):(wd (anj k)).length<=2:=aQ.2 (by have:=b5x k;omega)
theorem r11half_spec(k:Nat)(Y Z:Bool)(R T:Value)(y z:List Nat)(t x:Int)(w:World)(hk:k<9218868437227405312)(g:NU w R y)(h:NU w T z)(I : -1048576<=t/\t<=1048576)(J : -1048576<=x/\x<=1048576)(G:y.length<=8192)(H:z.length<=8192):Ret Tryz.prog 258 [.agg [.int .i64 53,.int .i64 (-1074),.int .u64 9218868437227405312].toArray,.int .u64 (k:Int),.agg [.bool Y,R,.int .i64 t,.bool Z,T,.int .i64 x].toArray,.bool false] w λu w'=>u = .int .i64 (c2x ((anj k+anj (k+1)*2^(pZ (k+1)-pZ k).toNat)*val z) (pZ k-1+x) (val y) t)/\Chg [] w w':=by
 have a:=crf w;have a1:=g.one;have a2:=h.one;have a5:=ctj k;have a6:=a0q k oO;have a4:=bfq k;have a3:=bfq (k+1);obtain ⟨d,M⟩ : ∃ d:Nat,(d:Int)=pZ (k+1)-pZ k:=⟨(pZ (k+1)-pZ k).toNat,by omega⟩;rw[show (pZ (k+1)-pZ k).toNat=d by omega];refine zE4 Tryz.func258 rfl ?_;refine Sr λ_ F=>?_;refine zBh rfl rfl rfl a λb4 X f m U o a=>?_;have g:=g.q5 m;have h:=h.q5 m;refine zBh rfl rfl rfl a λb6 V e i p n a=>?_;have g:=g.q5 i;have h:=h.q5 i;have s:=zdd f.lt p;have f:=f.k0 i;refine za rfl (zz (F (Sr λ_ D=>zg f rfl (zm rfl ?_))));refine WL.call hasF226 rfl rfl (qZ (k) _ oO) λv w1 l=>?_;obtain ⟨⟨va,rfl,j⟩,c⟩:=l;have a:=a.ta c;have f:=f.k0 c;have e:=e.k0 c;have g:=g.q5 c;have h:=h.q5 c;refine zm rfl (zx rfl rfl (zx rfl rfl (za rfl (za rfl (zz (D (Sr λ_ C=>zg f rfl (zm rfl ?_))))))))
 first|refine WL.ev (Ev.iX (b:=1) rfl rfl oO) rfl ?_|refine WL.ev (Ev.aaq (b:=1) rfl rfl) rfl ?_
 refine WL.call hasF226 rfl rfl (qZ (k+1) _ oO) λv w2 l=>?_;obtain ⟨⟨vb,rfl,Q⟩,c⟩:=l;have a:=a.ta c;have e:=e.k0 c;have g:=g.q5 c;have h:=h.q5 c;have j:=j.q5 c;refine zm rfl (zx rfl rfl (zx rfl rfl (za rfl (za rfl (zz (C (Sr λ_ B=>zm rfl (zm rfl (zm rfl (zm rfl ?_))))))))));refine WL.ev (Ev.dX rfl rfl oO) rfl ?_;rw[<- M];refine WL.call hasF172 rfl rfl (zZ _ _ _ Q d oO oO) λv w3 l=>?_;obtain ⟨r,c,hF⟩:=l;rw[g6] at r;have O:(wd (anj (k+1)*2^d)).length<=3:=aQ.2 (by have h7:=b5x (k+1);have h8:2^d<=2^1:=Nat.pow_le_pow_right oD oO;have h9:=Nat.mul_le_mul (Nat.le_of_lt h7) h8;omega);have a:=a.ta c;have e:=e.k0 c;have g:=g.q5 c;have h:=h.q5 c;have j:=j.q5 c;refine WL.call hasF173 rfl rfl (byj _ _ _ _ _ j r oO oO) λv w4 l=>?_;obtain ⟨q,c,hF⟩:=l;rw[g6,g6] at q;have a0:(wd (anj k+anj (k+1)*2^d)).length<=4:=aQ.2 (by have h5:=b5x k;have h6:=aQ.1 O;omega);have a:=a.ta c;have e:=e.k0 c;have g:=g.q5 c;have h:=h.q5 c;refine za rfl (zz (B (Sr λ_ A=>zm rfl (zm rfl ?_))));refine WL.ev (Ev.dX rfl rfl oO) rfl ?_;refine zg e rfl (zm rfl ?_);refine WL.call hasF257 rfl rfl (a3j _ _ _ _ _ _ _ _ _ _ _ _ q oO oO g h I J G H) λv w5 l=>?_;obtain ⟨rfl,c⟩:=l;rw[g6];have a:=a.ta c;refine za rfl (zz (A ?_));refine zr (zr1 rfl rfl ?_);exact ⟨rfl,a⟩
end
end Go.Proofs.YtomlallhlakhfaaGreatDoor