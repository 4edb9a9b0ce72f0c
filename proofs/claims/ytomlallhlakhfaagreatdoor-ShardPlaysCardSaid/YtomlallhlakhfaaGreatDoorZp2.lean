/- Part 2 of what the proof rests on. No condition. -/
import Derived.Test.YtomlallhlakhfaaGreatDoorZp1
set_option linter.unusedVariables false
set_option linter.unusedSimpArgs false
set_option maxRecDepth 100000
set_option maxHeartbeats 4000000
namespace Go.Proofs.YtomlallhlakhfaaGreatDoor
section
open Go Sx Wd
theorem b2q{x k:Nat}(h:2^k<=x):bl x=k+bl (x/2^k):=by
  have a:=Nat.two_pow_pos k
  have b:x/2^k≠0:=Nat.ne_of_gt (Nat.div_pos h a)
  have d:=blq b
  refine cxq ?_ (.inr ?_)
  · have:=cbj (x/2^k)
    rw[Nat.div_lt_iff_lt_mul a] at this
    rwa [Nat.pow_add,Nat.mul_comm]
  · have:=cxj b
    rw[Nat.le_div_iff_mul_le a] at this
    rw[show k+bl (x/2^k)-1=(bl (x/2^k)-1)+k by omega,Nat.pow_add]
    exact this
def lenTab(bs:ByteArray):Prop:=∀ i,i<256->bs[i]?=some (UInt8.ofNat (bl i))
theorem b7x{a:ByteArray}(h:((List.range 256).all λi=>a[i]?==some (UInt8.ofNat (bl i)))=true):lenTab a:=λi hi=>by
  have:=List.all_eq_true.1 h i (List.mem_range.2 hi)
  simpa using this
theorem bl_u8{i:Nat}(h:i<256):((UInt8.ofNat (bl i)).toNat:Int)=(bl i:Int):=by
  have:bl i<=8:=vQ.2 oO
  simp[UInt8.toNat_ofNat']
  omega
theorem Len32_spec(x:Nat)(w:World)(h:x<4294967296):Ret Tryz.prog 213 [.int .u32 (x:Int)] w λu w'=>u = .int .i64 (bl x:Int)/\w=w':=by
 refine zE1 Tryz.func213 rfl ?_;refine Sr λ_ z=>za rfl (zz (z (zc λ_ i=>Sr λ_ y=>zm rfl ?_)));refine WL.ev (Ev.geq rfl rfl) rfl ?_;refine zz (y ?_);refine zy rfl ?_ ?_<;>intro C<;>try simp only[qs] at C
 ·refine Sr λ_ v=>zm rfl ?_
  refine WL.ev (Ev.avx (b:=16) rfl rfl (by simp only[IntKind.bits];omega)) rfl ?_;refine za rfl (zz (v ?_));refine zR λ_ t=>?_;refine za rfl ?_;refine WL.nil (t _ _ _ (i ?_));refine zc λ_ g=>Sr λ_ s=>zm rfl ?_;refine WL.ev (Ev.geq rfl rfl) rfl ?_;refine zz (s ?_);refine zy rfl ?_ ?_<;>intro B<;>try simp only[qs] at B
  ·have D:=b2q (x:=x) (k:=16) oO;have F:=b2q (x:=x/2^16) (k:=8) oO;refine Sr λ_ r=>zm rfl ?_
   refine WL.ev (Ev.avx (b:=8) rfl rfl (by simp only[IntKind.bits];omega)) rfl ?_;refine za rfl (zz (r ?_));refine zR λ_ f=>?_;refine zm rfl ?_;refine WL.ev (Ev.kQ rfl rfl oO) rfl ?_;refine za rfl ?_;refine WL.nil (f _ _ _ (g ?_));refine Sr λ_ q=>zm rfl (zm rfl ?_);refine WL.ev (Ev.coq rfl rfl) rfl ?_;rw[Nat.mod_eq_of_lt oO];refine WL.ev (Ev.indexS rfl rfl ((b7x (by decide +kernel)) _ oO)) rfl ?_;rw[bl_u8 oO];have d:=vQ (n:=x/2^16/2^8) (k:=8);refine WL.ev (Ev.eZ rfl rfl (tX oO)) rfl ?_;refine WL.ev (Ev.kQ rfl rfl oO) rfl ?_;refine za rfl (zz (q ?_));refine zr (zr1 rfl rfl ?_);refine ⟨?_,rfl⟩
   first|rfl|(congr 1;omega)
  have D:=b2q (x:=x) (k:=16) oO;refine zkk (g (Sr λ_ p=>zm rfl (zm rfl ?_)));refine WL.ev (Ev.coq rfl rfl) rfl ?_;rw[Nat.mod_eq_of_lt oO];refine WL.ev (Ev.indexS rfl rfl ((b7x (by decide +kernel)) _ oO)) rfl ?_;rw[bl_u8 oO];have d:=vQ (n:=x/2^16) (k:=8);refine WL.ev (Ev.eZ rfl rfl (tX oO)) rfl ?_;refine WL.ev (Ev.kQ rfl rfl oO) rfl ?_;refine za rfl (zz (p ?_));refine zr (zr1 rfl rfl ?_);refine ⟨?_,rfl⟩
  first|rfl|(congr 1;omega)
 refine zkk (i (zc λ_ a=>Sr λ_ o=>zm rfl ?_));refine WL.ev (Ev.geq rfl rfl) rfl ?_;refine zz (o ?_);refine zy rfl ?_ ?_<;>intro A<;>try simp only[qs] at A
 ·have D:=b2q (x:=x) (k:=8) oO;refine Sr λ_ m=>zm rfl ?_
  refine WL.ev (Ev.avx (b:=8) rfl rfl (by simp only[IntKind.bits];omega)) rfl ?_;refine za rfl (zz (m ?_));refine zR λ_ e=>?_;refine zm rfl ?_;refine WL.ev (Ev.kQ rfl rfl oO) rfl ?_;refine za rfl ?_;refine WL.nil (e _ _ _ (a ?_));refine Sr λ_ l=>zm rfl (zm rfl ?_);refine WL.ev (Ev.coq rfl rfl) rfl ?_;rw[Nat.mod_eq_of_lt oO];refine WL.ev (Ev.indexS rfl rfl ((b7x (by decide +kernel)) _ oO)) rfl ?_;rw[bl_u8 oO];have d:=vQ (n:=x/2^8) (k:=8);refine WL.ev (Ev.eZ rfl rfl (tX oO)) rfl ?_;refine WL.ev (Ev.kQ rfl rfl oO) rfl ?_;refine za rfl (zz (l ?_));refine zr (zr1 rfl rfl ?_);refine ⟨?_,rfl⟩
  first|rfl|(congr 1;omega)
 refine zkk (a (Sr λ_ j=>zm rfl (zm rfl ?_)));refine WL.ev (Ev.coq rfl rfl) rfl ?_;rw[Nat.mod_eq_of_lt oO];refine WL.ev (Ev.indexS rfl rfl ((b7x (by decide +kernel)) _ oO)) rfl ?_;rw[bl_u8 oO];have d:=vQ (n:=x) (k:=8);refine WL.ev (Ev.eZ rfl rfl (tX oO)) rfl ?_;refine WL.ev (Ev.kQ rfl rfl oO) rfl ?_;refine za rfl (zz (j ?_));refine zr (zr1 rfl rfl ?_);refine ⟨?_,rfl⟩
 first|rfl|(congr 1;omega)
theorem bvj(x y c:Nat)(w:World)(i:x<4294967296)(h:y<4294967296)(g:c<4294967296):Ret Tryz.prog 229 [.int .u32 (x:Int),.int .u32 (y:Int),.int .u32 (c:Int)] w λu w'=>u = .tuple [.int .u32 (((x+y+c)%4294967296:Nat):Int),.int .u32 (((x+y+c)/4294967296:Nat):Int)].toArray/\w=w':=by
 refine zE3 Tryz.func229 rfl ?_;refine Sr λ_ f=>za rfl (za rfl (zz (f (Sr λ_ e=>zm rfl ?_))));refine WL.ev (Ev.eZ rfl rfl (jX oO)) rfl ?_;refine zm rfl ?_;refine WL.ev (Ev.eZ rfl rfl (jX oO)) rfl ?_
 first|refine WL.ev (Ev.iJ rfl rfl oO) rfl ?_|refine WL.ev (Ev.abq rfl rfl) rfl ?_
 refine zm rfl ?_;refine WL.ev (Ev.eZ rfl rfl (jX oO)) rfl ?_
 first|refine WL.ev (Ev.iJ rfl rfl oO) rfl ?_|refine WL.ev (Ev.abq rfl rfl) rfl ?_
 refine za rfl (zz (e (Sr λ_ d=>zm rfl ?_)));refine WL.ev (Ev.tJ rfl rfl) rfl ?_;refine za rfl (zz (d (Sr λ_ a=>zm rfl ?_)));refine WL.ev (Ev.avx (b:=32) rfl rfl (by simp only[IntKind.bits];omega)) rfl ?_;refine WL.ev (Ev.tJ rfl rfl) rfl ?_;refine za rfl (zz (a ?_));refine zr (zr2 rfl rfl rfl ?_);rw[show (x+y+c)/2^32%4294967296=(x+y+c)/4294967296 by omega];exact ⟨rfl,rfl⟩
theorem top31{n:Nat}(h:n<4294967296):n/2^31=if n.testBit 31 then 1 else 0:=by
  rw[Nat.testBit_eq_decide_div_mod_eq]
  have:n/2^31<2:=by omega
  split
  · rename_i h1;have:=of_decide_eq_true h1;omega
  · rename_i h1;simp at h1;omega
theorem bit31{n:Nat}(h:n<4294967296):n.testBit 31=decide (2147483648<=n):=by
  rw[Nat.testBit_eq_decide_div_mod_eq]
  refine decide_eq_decide.2 ?_
  omega
theorem not31{n:Nat}(h:n<4294967296):(4294967296-1-n).testBit 31 = !n.testBit 31:=by
  rw[bit31 h,bit31 oO]
  by_cases h1:2147483648<=n
  · rw[decide_eq_true h1,decide_eq_false oO];rfl
  · rw[decide_eq_false h1,decide_eq_true oO];rfl
theorem borrow32{x y c d:Nat}(g:x<4294967296)(f:y<4294967296)(m:c<=1)(l:d=(x+8589934592-y-c)%4294967296):(((4294967296-1-x)&&& y)||| ((4294967296-1-(x ^^^ y))&&& d))/2^31=if x<y+c then 1 else 0:=by
  have k:x ^^^ y<4294967296:=Nat.xor_lt_two_pow (n:=32) g f
  have h:d<4294967296:=by omega
  have j:((4294967296-1-x)&&& y)<4294967296:=Nat.and_lt_two_pow (n:=32) _ f
  have i:((4294967296-1-(x ^^^ y))&&& d)<4294967296:=Nat.and_lt_two_pow (n:=32) _ h
  rw[top31 (Nat.or_lt_two_pow (n:=32) j i)]
  rw[Nat.testBit_or,Nat.testBit_and,Nat.testBit_and,not31 g,not31 k,Nat.testBit_xor,bit31 g,bit31 f,bit31 h]
  by_cases a:2147483648<=x<;>by_cases b:2147483648<=y<;>by_cases e:2147483648<=d<;>simp[a,b,e]<;>omega
theorem low_bit{x k:Nat}(d:0<x)(h:x<2^k):x&&& (2^k-x)=2^tz x:=by
  obtain ⟨a,b⟩:=akj (Nat.ne_of_gt d)
  have e:tz x<k:=by
    have:=zJ (Nat.ne_of_gt d)
    have:=vQ.2 h
    omega
  generalize tz x=t at *
  generalize x/2^t=q at *
  subst b
  have n:q<2^(k-t):=by
    have:q*2^t<2^(k-t)*2^t:=by rw[<- Nat.pow_add,show k-t+t=k by omega];exact h
    exact Nat.lt_of_mul_lt_mul_right this
  have l:2^k-q*2^t=(2^(k-t)-q)*2^t:=by rw[Nat.sub_mul,<- Nat.pow_add,show k-t+t=k by omega]
  rw[l,<- Nat.shiftLeft_eq,<- Nat.shiftLeft_eq,<- Nat.shiftLeft_and_distrib]
  have j:q&&& (2^(k-t)-q)=1:=by
    obtain ⟨m,rfl⟩ : ∃ m,q=m+1:=⟨q-1,by omega⟩
    apply Nat.eq_of_testBit_eq
    intro i
    rw[Nat.testBit_and,Nat.testBit_two_pow_sub_succ oO]
    have o:m%2=0:=by omega
    cases i with
    | zero=>simp;omega
    | succ i=>
      have g:(m+1).testBit (i+1)=m.testBit (i+1):=by
        rw[Nat.testBit_succ,Nat.testBit_succ]
        congr 1
        omega
      have f:(1:Nat).testBit (i+1)=false:=by rw[Nat.testBit_succ];simp
      rw[g,f]
      cases m.testBit (i+1)<;>simp
  rw[j,Nat.shiftLeft_eq,Nat.one_mul]
def deb:List Nat:=[0,1,28,2,29,14,24,3,30,22,20,15,25,17,4,8,31,27,13,23,21,19,16,7,26,12,18,6,11,5,10,9]
def GW(w:World):Prop:=∀ i,i<32->w.cell? ⟨6,i,none⟩=some (.int .u8 ((deb.getD i 0:Nat):Int))
theorem GW.dJ{w w':World}{T:List Nat}(h:GW w)(a:Chg T w w')(hT : ∀ b∈T,w.heap.size<=b):GW w':=λi hi=>a.cell (h i hi) λhm=>by
  have:=hT _ hm
  have:=block_lt_of_cell (h i hi)
  dsimp only at *
  omega
theorem GW.q8{w w':World}(h:GW w)(a:Chg [] w w'):GW w':=h.dJ a oS
theorem deb_all:((List.range 32).all λt=>deb.getD (2^t*125613361%4294967296/2^27) 0==t)=true:=by decide +kernel
theorem deb_ok{t:Nat}(h:t<32):deb.getD (2^t*125613361%4294967296/2^27) 0=t:=by
  have:=List.all_eq_true.1 deb_all t (List.mem_range.2 h)
  simpa using this
theorem dwj(x y c:Nat)(w:World)(h:x<4294967296)(d:y<4294967296)(k:c<=1):Ret Tryz.prog 255 [.int .u32 (x:Int),.int .u32 (y:Int),.int .u32 (c:Int)] w λu w'=>u = .tuple [.int .u32 (((x+8589934592-y-c)%4294967296:Nat):Int),.int .u32 ((if x<y+c then 1 else 0:Nat):Int)].toArray/\w=w':=by
 refine zE3 Tryz.func255 rfl ?_;refine Sr λ_ g=>za rfl (za rfl (zz (g (Sr λ_ f=>zm rfl (zm rfl ?_)))));refine WL.ev (Ev.sub32 rfl rfl oO) rfl ?_;refine zm rfl ?_;refine WL.ev (Ev.sub32 rfl rfl oO) rfl ?_;rw[show ((x+(4294967296-y))%4294967296+(4294967296-c))%4294967296=(x+8589934592-y-c)%4294967296 by omega];obtain ⟨i,a⟩ : ∃ i,i=(x+8589934592-y-c)%4294967296:=⟨_,rfl⟩;rw[<- a];have j:x ^^^ y<4294967296:=Nat.xor_lt_two_pow (n:=32) h d;refine za rfl (zz (f (Sr λ_ e=>zm rfl ?_)));refine WL.ev (Ev.complU rfl rfl (by simp only[IntKind.bits];omega)) rfl ?_;refine zm rfl ?_;refine WL.ev (Ev.andU rfl rfl rfl (by simp only[IntKind.bits];omega) (by simp only[IntKind.bits];omega)) rfl ?_;refine zm rfl (zm rfl ?_);refine WL.ev (Ev.xorU rfl rfl rfl (by simp only[IntKind.bits];omega) (by simp only[IntKind.bits];omega)) rfl ?_;refine WL.ev (Ev.complU rfl rfl (by simp only[IntKind.bits];omega)) rfl ?_;refine zm rfl ?_;refine WL.ev (Ev.andU rfl rfl rfl (by simp only[IntKind.bits];omega) (by simp only[IntKind.bits];omega)) rfl ?_;refine WL.ev (Ev.orU rfl rfl rfl (Nat.and_lt_two_pow _ d) (Nat.and_lt_two_pow _ (by simp only[IntKind.bits];omega))) rfl ?_;refine WL.ev (Ev.avx (b:=31) rfl rfl (Nat.or_lt_two_pow (Nat.and_lt_two_pow _ d) (Nat.and_lt_two_pow _ (by simp only[IntKind.bits];omega)))) rfl ?_;simp only[IntKind.bits];rw[show (2:Nat)^32=4294967296 from rfl,borrow32 h d k a];refine za rfl (zz (e ?_));refine zr (zr2 rfl rfl rfl ?_);rw[a];exact ⟨rfl,rfl⟩
theorem b3x(x:Nat)(w:World)(m:GW w)(n:x≠0)(j:x<4294967296):Ret Tryz.prog 249 [.int .u32 (x:Int)] w λu w'=>u = .int .i64 (tz x:Int)/\w=w':=by
 have h:tz x<32:=Nat.lt_of_lt_of_le (zJ n) (vQ.2 oO);have l:2^tz x<4294967296:=Nat.lt_of_le_of_lt (by rw[<- low_bit (k:=32) oO j];exact Nat.and_le_left) j;refine zE1 Tryz.func249 rfl ?_;refine Sr λ_ g=>za rfl (zz (g (zc λ_ f=>Sr λ_ e=>zm rfl (zq rfl rfl (zz (e ?_))))));refine zy rfl ?_ ?_<;>intro a<;>try simp only[qs] at a
 ·exact absurd a oO
 refine zkk (f (Sr λ_ d=>zm rfl (zm rfl ?_)));refine WL.ev (Ev.neg rfl) rfl ?_;rw[d2j,show (0-(x:Int))%4294967296=((2^32-x:Nat):Int) by omega];refine WL.ev (Ev.andU rfl rfl rfl (by simp only[IntKind.bits];omega) (by simp only[IntKind.bits];omega)) rfl ?_;rw[low_bit oO oO];refine WL.ev (Ev.mul32 (b:=125613361) rfl rfl) rfl ?_;refine WL.ev (Ev.avx (b:=27) rfl rfl (by simp only[IntKind.bits];omega)) rfl ?_;have i:2^tz x*125613361%4294967296/2^27<32:=by omega
 refine WL.ev (Ev.indexAddrArr rfl rfl oO oO) rfl ?_;rw[show 0+((2^tz x*125613361%4294967296/2^27:Nat):Int).toNat*1=2^tz x*125613361%4294967296/2^27 by omega];refine WL.ev (Ev.load rfl rfl (m _ i)) rfl ?_;rw[deb_ok h];refine WL.ev (Ev.eZ rfl rfl (tX oO)) rfl ?_;refine za rfl (zz (d ?_));refine zr (zr1 rfl rfl ?_);exact ⟨rfl,rfl⟩
end
namespace Wd
theorem yJ{l:List Nat}{i x:Nat}(h:i<l.length):(l.set i x).getD i 0=x:=by
  rw[List.getD_eq_getElem?_getD,List.getElem?_set,if_pos rfl,if_pos h];rfl
theorem getD_set_ne{l:List Nat}{i j x:Nat}(h:i≠j):(l.set i x).getD j 0=l.getD j 0:=by
  rw[List.getD_eq_getElem?_getD,List.getElem?_set,if_neg h,<- List.getD_eq_getElem?_getD]
theorem c6x{l:List Nat}{i:Nat}(h:i<l.length)(x:Nat):val (l.set i x)+2^(32*i)*l.getD i 0=val l+2^(32*i)*x:=by
  induction l generalizing i with
  | nil=>simp at h
  | cons y l ih=>
    cases i with
    | zero=>simp[val];omega
    | succ i=>
      have:=ih (i:=i) (by simpa using h)
      simp only[List.set_cons_succ,val,List.getD_cons_succ]
      rw[show 32*(i+1)=32+32*i by omega,Nat.pow_add,Nat.mul_assoc,Nat.mul_assoc]
      have e:(2:Nat)^32=4294967296:=by decide
      rw[e];omega
theorem bej{l:List Nat}{i k x:Nat}(h:k<=i):(l.set i x).take k=l.take k:=by
  rw[List.take_set_of_le h]
theorem gZ(l:List Nat)(i:Nat):val (l.take (i+1))=val (l.take i)+2^(32*i)*l.getD i 0:=by
  by_cases h:i<l.length
  · exact anx h
  · rw[aaj oO,List.take_of_length_le oO,List.take_of_length_le oO];simp
theorem axx(k j:Nat):(List.replicate k 0).getD j 0=0:=by
  rw[List.getD_eq_getElem?_getD,List.getElem?_replicate];split<;>rfl
theorem two32(i:Nat):2^(32*(i+1))=2^(32*i)*4294967296:=by
  rw[show 32*(i+1)=32*i+32 by omega,Nat.pow_add]
structure dzx(la lb:List Nat)(i:Nat)(L:List Nat)(c:Nat):Prop where
  le:i<=la.length
  len:L.length=la.length+1
  w:W L
  c1:c<=1
  v:val (L.take i)+2^(32*i)*c=val (la.take i)+val (lb.take i)
theorem dzx.zero{a b L:List Nat}(e:L.length=a.length+1)(d:W L):dzx a b 0 L 0:=⟨Nat.zero_le _,e,d,by omega,by simp[val]⟩
theorem dzx.step{a b L:List Nat}{i c:Nat}(h:dzx a b i L c)(f:W a)(d:W b)(k:i<a.length):dzx a b (i+1) (L.set i ((a.getD i 0+b.getD i 0+c)%4294967296)) ((a.getD i 0+b.getD i 0+c)/4294967296):=by
  have n:=f.getD i
  have m:=d.getD i
  have l:=h.c1
  have j:=h.len
  refine ⟨by omega,by simp[h.len],h.w.set _ oO,by omega,?_⟩
  rw[gZ (L.set _ _),gZ a,gZ b,bej (Nat.le_refl _),yJ oO,two32]
  have g:=h.v
  generalize a.getD i 0=x at *
  generalize b.getD i 0=y at *
  generalize 2^(32*i)=p at *
  have e:p*((x+y+c)%4294967296)+p*4294967296*((x+y+c)/4294967296)=p*x+p*y+p*c:=by
    rw[Nat.mul_assoc,<- Nat.mul_add,Nat.mod_add_div,Nat.mul_add,Nat.mul_add]
  omega
theorem dzx.done{a b L:List Nat}{c:Nat}(h:dzx a b a.length L c)(d:b.length<=a.length):val (L.set a.length c)=val a+val b/\W (L.set a.length c)/\(L.set a.length c).length=a.length+1:=by
  have g:=h.len
  have f:=h.v
  rw[List.take_length,List.take_of_length_le d] at f
  refine ⟨?_,h.w.set _ (by have:=h.c1;omega),by simp[g]⟩
  have e:L.set a.length c=(L.set a.length c).take (a.length+1):=by rw[List.take_of_length_le (by simp[g])]
  rw[e,gZ,bej (Nat.le_refl _),yJ oO]
  exact f
structure dwq(la lb:List Nat)(i:Nat)(L:List Nat)(c:Nat):Prop where
  le:i<=la.length
  len:L.length=la.length
  w:W L
  c1:c<=1
  v:val (L.take i)+val (lb.take i)=val (la.take i)+2^(32*i)*c
theorem dwq.zero{a b L:List Nat}(e:L.length=a.length)(d:W L):dwq a b 0 L 0:=⟨Nat.zero_le _,e,d,by omega,by simp[val]⟩
theorem dwq.step{a b L:List Nat}{i c:Nat}(h:dwq a b i L c)(f:W a)(d:W b)(l:i<a.length):dwq a b (i+1) (L.set i ((a.getD i 0+8589934592-b.getD i 0-c)%4294967296)) (if a.getD i 0<b.getD i 0+c then 1 else 0):=by
  have o:=f.getD i
  have n:=d.getD i
  have m:=h.c1
  have k:=h.len
  refine ⟨by omega,by simp[h.len],h.w.set _ oO,by split<;>omega,?_⟩
  rw[gZ (L.set _ _),gZ a,gZ b,bej (Nat.le_refl _),yJ oO,two32]
  have j:=h.v
  generalize a.getD i 0=x at *
  generalize b.getD i 0=y at *
  generalize 2^(32*i)=p at *
  split
  · rename_i hlt
    have e:(x+8589934592-y-c)%4294967296=x+4294967296-y-c:=by omega
    have g:p*(x+4294967296-y-c)+p*y+p*c=p*x+p*4294967296:=by
      rw[<- Nat.mul_add,<- Nat.mul_add,<- Nat.mul_add];congr 1;omega
    rw[e];omega
  · rename_i hlt
    have e:(x+8589934592-y-c)%4294967296=x-y-c:=by omega
    have g:p*(x-y-c)+p*y+p*c=p*x:=by
      rw[<- Nat.mul_add,<- Nat.mul_add];congr 1;omega
    rw[e];omega
theorem dwq.done{b a L:List Nat}{c:Nat}(h:dwq b a b.length L c)(g:W b)(d:W a)(f:val a<=val b):val L=val b-val a:=by
  have e:=h.v
  rw[List.take_length,List.take_of_length_le (by rw[h.len];exact Nat.le_refl _)] at e
  have m:val (a.take b.length)<=val a:=by
    by_cases q:b.length<=a.length
    · rw[ciq d _ q];exact Nat.mod_le _ _
    · rw[List.take_of_length_le oO];exact Nat.le_refl _
  have i:=vZ h.w
  rw[h.len] at i
  have l:=vZ g
  have k:val (a.take b.length)=val a:=by
    by_cases q:b.length<=a.length
    · rw[ciq d _ q,Nat.mod_eq_of_lt oO]
    · rw[List.take_of_length_le oO]
  have j:=h.c1
  have:c=0:=by
    rcases (by omega:c=0\/c=1) with rfl|rfl
    · rfl
    · omega
  subst this
  omega
structure UpI(l:List Nat)(s:Nat)(i:Nat)(L:List Nat):Prop where
  le:i<=l.length
  len:L.length=l.length+1
  w:W L
  lo:L.getD i 0<2^s
  hi : ∀ j,i<j->L.getD j 0=0
  v:val L=val (l.take i)*2^s
theorem UpI.zero(l:List Nat)(s:Nat):UpI l s 0 (List.replicate (l.length+1) 0):=⟨Nat.zero_le _,by simp,oJ _,by rw[axx];exact Nat.two_pow_pos _,λj _=>axx _ _,by rw[agx];simp[val]⟩
theorem agj{x y s:Nat}(a:x<2^s):x||| (y*2^s)=x+y*2^s:=by
  have:=Nat.two_pow_add_eq_or_of_lt a y
  rw[Nat.or_comm,Nat.mul_comm y,<- this,Nat.add_comm]
theorem UpI.step{l L:List Nat}{s i:Nat}(h:UpI l s i L)(A:s<32)(m:W l)(hi:i<l.length):
    L.getD i 0||| (l.getD i 0*2^s%18446744073709551616%4294967296)<4294967296/\
    UpI l s (i+1) ((L.set i (L.getD i 0||| (l.getD i 0*2^s%18446744073709551616%4294967296))).set (i+1) (l.getD i 0*2^s%18446744073709551616/2^32%4294967296)):=by
  have y:=m.getD i
  have a:=h.len
  have b:=h.lo
  have B:2^s<=2147483648:=by
    have:=Nat.pow_le_pow_right (n:=2) oD (show s<=31 by omega)
    rwa [show (2:Nat)^31=2147483648 by decide] at this
  have k:=Nat.two_pow_pos s
  have C:l.getD i 0*2^s<=4294967295*2^s:=Nat.mul_le_mul_right _ oO
  have x:l.getD i 0*2^s%18446744073709551616=l.getD i 0*2^s:=Nat.mod_eq_of_lt oO
  have e:l.getD i 0*2^s%4294967296=(l.getD i 0%2^(32-s))*2^s:=by
    have:(4294967296:Nat)=2^(32-s)*2^s:=by rw[<- Nat.pow_add,show 32-s+s=32 by omega]
    rw[this,Nat.mul_mod_mul_right]
  have u:L.getD i 0||| (l.getD i 0*2^s%4294967296)=L.getD i 0+l.getD i 0*2^s%4294967296:=by
    rw[e,agj b]
  have f:L.getD i 0+l.getD i 0*2^s%4294967296<4294967296:=by
    have q:l.getD i 0%2^(32-s)+1<=2^(32-s):=Nat.mod_lt _ (Nat.two_pow_pos _)
    have o:=Nat.mul_le_mul_right (2^s) q
    rw[<- Nat.pow_add,show 32-s+s=32 by omega,Nat.add_mul,Nat.one_mul] at o
    rw[e]
    have:(2:Nat)^32=4294967296:=by decide
    omega
  have r:l.getD i 0*2^s/2^32%4294967296=l.getD i 0*2^s/4294967296:=by
    have:(2:Nat)^32=4294967296:=by decide
    rw[this];omega
  rw[x,u,r]
  refine ⟨f,by omega,by simp[a],(h.w.set _ f).set _ oO,?_,λj D=>?_,?_⟩
  · rw[yJ oT,Nat.div_lt_iff_lt_mul oD]
    calc l.getD i 0*2^s<4294967296*2^s:=by omega
      _=2^s*4294967296:=Nat.mul_comm _ _
  · rw[getD_set_ne oO,getD_set_ne oO];exact h.hi j oO
  · have d:=c6x (l:=L.set i (L.getD i 0+l.getD i 0*2^s%4294967296)) (i:=i+1) oT (l.getD i 0*2^s/4294967296)
    have g:=c6x (l:=L) (i:=i) oO (L.getD i 0+l.getD i 0*2^s%4294967296)
    rw[getD_set_ne oO,h.hi (i+1) oO,Nat.mul_zero,Nat.add_zero] at d
    have z:=h.v
    rw[gZ l i,Nat.add_mul,d,two32,Nat.mul_assoc]
    rw[Nat.mul_add] at g
    rw[Nat.mul_assoc (2^(32*i)) (l.getD i 0)]
    generalize l.getD i 0*2^s=t at *
    generalize 2^(32*i)=p at *
    have F:p*(t%4294967296)+p*(4294967296*(t/4294967296))=p*t:=by rw[<- Nat.mul_add,Nat.mod_add_div]
    omega
theorem UpI.done{l L:List Nat}{s:Nat}(h:UpI l s l.length L):val L=val l*2^s:=by
  have:=h.v
  rwa [List.take_length] at this
structure cdx(l:List Nat)(s:Nat)(i:Nat)(L:List Nat):Prop where
  le:i<=l.length
  len:L.length=l.length
  w:W L
  v:val (L.take i)=val l/2^s%2^(32*i)
theorem cdx.zero(l L:List Nat)(s:Nat)(b:L.length=l.length)(a:W L):cdx l s 0 L:=⟨Nat.zero_le _,b,a,by simp[val,Nat.mod_one]⟩
theorem dsx{l:List Nat}(h:W l)(i:Nat):l.getD i 0=val l/2^(32*i)%4294967296:=by
  by_cases hi:i<l.length
  · rw[<- cij h i oO,uQ hi]
    have:=h.getD i
    omega
  · rw[aaj oO,Nat.div_eq_of_lt,Nat.zero_mod]
    exact Nat.lt_of_lt_of_le (vZ h) (Nat.pow_le_pow_right oD oO)
theorem two_words{l:List Nat}(h:W l)(i:Nat):l.getD i 0+l.getD (i+1) 0*4294967296=val l/2^(32*i)%18446744073709551616:=by
  rw[dsx h i,dsx h (i+1),two32,<- Nat.div_div_eq_div_mul]
  generalize val l/2^(32*i)=q
  omega
theorem cdx.step{l L:List Nat}{s i x:Nat}(h:cdx l s i L)(g:s<32)(e:W l)(j:i<l.length)(d:x=(l.getD i 0+l.getD (i+1) 0*4294967296)/2^s%4294967296):cdx l s (i+1) (L.set i x):=by
  have a:=h.len
  refine ⟨by omega,by simp[a],h.w.set _ oO,?_⟩
  rw[gZ,bej (Nat.le_refl _),yJ oO,h.v,d,two_words e]
  have f:val l/2^(32*i)%18446744073709551616/2^s%4294967296=val l/2^s/2^(32*i)%4294967296:=by
    rw[Nat.div_div_eq_div_mul (val l) (2^s),Nat.mul_comm (2^s),<- Nat.div_div_eq_div_mul]
    generalize val l/2^(32*i)=q
    have b:(18446744073709551616:Nat)=2^s*(4294967296*2^(32-s)):=by
      rw[Nat.mul_left_comm,<- Nat.pow_add,show s+(32-s)=32 by omega]
    rw[b,Nat.mod_mul_right_div_self,Nat.mod_mul_right_mod]
  rw[f,two32,Nat.mod_mul]
theorem cdx.done{l L:List Nat}{s:Nat}(h:cdx l s l.length L)(a:W l):val L=val l/2^s:=by
  have:=h.v
  rw[List.take_of_length_le (by rw[h.len];exact Nat.le_refl _)] at this
  rw[this,Nat.mod_eq_of_lt (Nat.lt_of_le_of_lt (Nat.div_le_self _ _) (vZ a))]
structure cpj(x:Nat)(lb:List Nat)(i:Nat)(L0:List Nat)(j:Nat)(L:List Nat)(c:Nat):Prop where
  le:j<=lb.length
  len:L.length=L0.length
  w:W L
  c1:c<4294967296
  hi : ∀ k,i+j<=k->L.getD k 0=L0.getD k 0
  v:val L+2^(32*(i+j))*c=val L0+2^(32*i)*(x*val (lb.take j))
theorem cpj.zero{x:Nat}{b a:List Nat}{i:Nat}(d:W a):cpj x b i a 0 a 0:=⟨Nat.zero_le _,rfl,d,by omega,λ_ _=>rfl,by simp[val]⟩
theorem cpj.fits{x y z c:Nat}(d:x<4294967296)(b:y<4294967296)(a:z<4294967296)(e:c<4294967296):x*y+z+c<18446744073709551616/\x*y<18446744073709551616/\x*y+z<18446744073709551616:=by
  have:x*y<=4294967295*4294967295:=Nat.mul_le_mul oO oO
  omega
theorem cpj.step{x:Nat}{a b L:List Nat}{i j c:Nat}(h:cpj x a i b j L c)(e:x<4294967296)(g:W a)(r:j<a.length)(d:i+a.length<=b.length):
    cpj x a i b (j+1) (L.set (i+j) ((x*a.getD j 0+L.getD (i+j) 0+c)%4294967296)) ((x*a.getD j 0+L.getD (i+j) 0+c)/4294967296):=by
  have f:=h.len
  have s:=(cpj.fits e (g.getD j) (h.w.getD (i+j)) h.c1).1
  refine ⟨by omega,by simp[f],h.w.set _ oO,by omega,λk q=>?_,?_⟩
  · rw[getD_set_ne oO];exact h.hi k oO
  · have n:=c6x (l:=L) (i:=i+j) oO ((x*a.getD j 0+L.getD (i+j) 0+c)%4294967296)
    have o:=h.v
    rw[show i+(j+1)=i+j+1 by omega,two32 (i+j),gZ a j,Nat.mul_add x,Nat.mul_add (2^(32*i))]
    have m:2^(32*i)*(x*(2^(32*j)*a.getD j 0))=2^(32*(i+j))*(x*a.getD j 0):=by
      rw[show 32*(i+j)=32*i+32*j by omega,Nat.pow_add,Nat.mul_assoc,Nat.mul_left_comm x]
    rw[m]
    generalize x*a.getD j 0=t at *
    generalize L.getD (i+j) 0=z at *
    generalize 2^(32*(i+j))=p at *
    have u:p*((t+z+c)%4294967296)+p*4294967296*((t+z+c)/4294967296)=p*t+p*z+p*c:=by
      rw[Nat.mul_assoc,<- Nat.mul_add,Nat.mod_add_div,Nat.mul_add,Nat.mul_add]
    omega
structure dxj(la lb:List Nat)(i:Nat)(L:List Nat):Prop where
  le:i<=la.length
  len:L.length=la.length+lb.length
  w:W L
  hi : ∀ k,i+lb.length<=k->L.getD k 0=0
  v:val L=val (la.take i)*val lb
theorem dxj.zero(b a:List Nat):dxj b a 0 (List.replicate (b.length+a.length) 0):=⟨Nat.zero_le _,by simp,oJ _,λ_ _=>axx _ _,by rw[agx];simp[val]⟩
theorem dxj.step{b a g L:List Nat}{i c:Nat}(h:dxj b a i g)(hi:i<b.length)(k:cpj (b.getD i 0) a i g a.length L c):dxj b a (i+1) (L.set (i+a.length) c):=by
  have j:=h.len
  have d:=k.len
  refine ⟨by omega,by simp[d,j],k.w.set _ k.c1,λq m=>?_,?_⟩
  · rw[getD_set_ne oO,k.hi q oO];exact h.hi q oO
  · have f:=c6x (l:=L) (i:=i+a.length) oO c
    rw[k.hi _ (Nat.le_refl _),h.hi _ (Nat.le_refl _),Nat.mul_zero,Nat.add_zero] at f
    have e:=k.v
    rw[List.take_length] at e
    rw[gZ b i,Nat.add_mul,f,e,h.v,Nat.mul_assoc]
theorem dxj.done{a b L:List Nat}(h:dxj a b a.length L):val L=val a*val b:=by
  have:=h.v
  rwa [List.take_length] at this
def sgn(a b:Nat):Int:=if a<b then -1 else if b<a then 1 else 0
theorem dfq{a b:List Nat}{k:Nat}(g:W a)(f:W b)(q:a.length=b.length)(d:k<a.length)(e:a.drop (k+1)=b.drop (k+1)):(a.getD k 0<b.getD k 0->sgn (val a) (val b) = -1)/\(b.getD k 0<a.getD k 0->sgn (val a) (val b)=1)/\(a.getD k 0=b.getD k 0->a.drop k=b.drop k):=by
  have o:=anq a k oO
  have n:=anq b k oO
  have m:=vZ (g.take k)
  have j:=vZ (f.take k)
  rw[List.length_take,Nat.min_eq_left oO] at m j
  rw[uQ d] at o
  rw[uQ oO,<- e] at n
  generalize val (a.drop (k+1))=r at *
  have p:=Nat.two_pow_pos (32*k)
  refine ⟨λh=>?_,λh=>?_,λh=>by rw[cwj d,cwj (l:=b) (i:=k) oO,h,e]⟩
  · have:2^(32*k)*(a.getD k 0+4294967296*r+1)<=2^(32*k)*(b.getD k 0+4294967296*r):=Nat.mul_le_mul_left _ oO
    rw[Nat.mul_add,Nat.mul_one] at this
    unfold sgn
    rw[if_pos oO]
  · have:2^(32*k)*(b.getD k 0+4294967296*r+1)<=2^(32*k)*(a.getD k 0+4294967296*r):=Nat.mul_le_mul_left _ oO
    rw[Nat.mul_add,Nat.mul_one] at this
    unfold sgn
    rw[if_neg oO,if_pos oO]
theorem c7x{a b:Nat}: ((wd a).length<(wd b).length->sgn a b = -1)/\((wd b).length<(wd a).length->sgn a b=1):=by
  constructor
  · intro h
    have:a<b:=Nat.lt_of_not_le λd=>by have:=uZ d;omega
    unfold sgn;rw[if_pos this]
  · intro h
    have:b<a:=Nat.lt_of_not_le λd=>by have:=uZ d;omega
    unfold sgn;rw[if_neg oO,if_pos this]
theorem dej(a:Nat):sgn a a=0:=by simp[sgn]
theorem tz_words{l:List Nat}{i:Nat}(j:W l)(m:i<l.length)(h:val (l.take i)=0)(f:l.getD i 0≠0):tz (val l)=32*i+tz (l.getD i 0):=by
  have g:=anq l i oO
  rw[h,Nat.zero_add,uQ m] at g
  have k:=j.getD i
  generalize l.getD i 0=x at *
  generalize val (l.drop (i+1))=r at *
  obtain ⟨a,b⟩:=akj f
  have n:tz x<32:=Nat.lt_of_lt_of_le (zJ f) (vQ.2 oO)
  generalize tz x=t at *
  generalize x/2^t=q at *
  have e:val l=(q+2^(32-t)*r)*2^(32*i+t):=by
    rw[g,b,Nat.pow_add,Nat.add_mul,Nat.mul_add]
    have d:(4294967296:Nat)=2^(32-t)*2^t:=by rw[<- Nat.pow_add,show 32-t+t=32 by omega]
    rw[d]
    simp only[Nat.mul_comm,Nat.mul_left_comm,Nat.mul_assoc]
  refine d3x e ?_
  have:2^(32-t)=2*2^(31-t):=by rw[show 32-t=(31-t)+1 by omega,Nat.pow_succ,Nat.mul_comm]
  rw[this,Nat.mul_assoc]
  omega
theorem val_one{l:List Nat}(h:l.length=1):val l=l.getD 0 0:=by
  match l,h with
  | [x],_=>simp[val]
theorem val_two{l:List Nat}(h:l.length=2):val l=l.getD 0 0+4294967296*l.getD 1 0:=by
  match l,h with
  | [x,y],_=>simp[val]
end Wd
section
open Go Sx Wd
structure K0(l:List Nat)(w:World)(k:Nat)(wr:World):Prop where
  le:k<=l.length
  vl:val (l.take k)=val l
  eq:w=wr
theorem a4x(v:Value)(l:List Nat)(w:World)(h:NU w v l):Ret Tryz.prog 212 [v] w λu w'=>NU w u (wd (val l))/\w=w':=by
 obtain ⟨⟨y,x,rfl,r,a⟩,d,p⟩:=h;have g:=crf w;refine zE1 Tryz.func212 rfl ?_;refine Sr λ_ o=>za rfl (zz (o (zc λ_ n=>CW.block ?_)));refine CW.loop (S:=λk:Nat=>[(0,.slice y k x)]) (Inv:=K0 l w) (mu:=λk=>k) (l.length) ?_ ?_ ?_
 ·exact ⟨Nat.le_refl _,by rw[List.take_length],rfl⟩
 ·exact SLp
 rintro k _ ⟨b,f,rfl⟩;refine zc λ_ m=>?_;refine CW.oX 14 (decide (0<k/\l.getD (k-1) 0=0)) ?_ ?_
 ·refine zS λ_ e=>zm rfl (zn rfl (zG rfl rfl (zm rfl ?_)));refine zb ?_ ?_<;>intro q<;>try simp only[qs] at q
  ·refine zw rfl (zm rfl (zw rfl (zm rfl (zw rfl (zn rfl (zw rfl ?_))))))
   first|refine WL.ev (Ev.dX rfl rfl oO) rfl ?_|refine WL.ev (Ev.sub rfl rfl) rfl ?_
   refine zw rfl ?_;refine WL.ev (Ev.ixR ((k-1)) rfl rfl (a.q8 g) oO oO oT) rfl ?_;refine zw rfl ?_;refine WL.ev (Ev.load rfl rfl ((a.q8 g).u32 oF)) rfl ?_;have t:=d.getD ((k-1));refine zw rfl (zq rfl rfl (zt rfl rfl (zz (e ?_))));refine ⟨rfl,rfl,j0.g8 rfl ?_ ?_⟩
   ·first|(simp;omega)|(refine decide_eq_decide.2 ?_;omega)
   exact SMg
  refine zv rfl (zv rfl (zv rfl (zv rfl (zv rfl (zv rfl (zv rfl (ze rfl rfl (zz (e ?_)))))))));refine ⟨rfl,rfl,j0.g8 rfl ?_ ?_⟩
  ·first|(simp;omega)|(refine decide_eq_decide.2 ?_;omega)
  exact SMg
 refine zy rfl ?_ ?_<;>intro s<;>try simp only[qs] at s
 ·refine zkk (m (CW.block (zS λ_ i=>zm rfl (zm rfl (zn rfl ?_)))))
  first|refine WL.ev (Ev.dX rfl rfl oO) rfl ?_|refine WL.ev (Ev.sub rfl rfl) rfl ?_
  refine WL.ev (Ev.c6j ((k-1)) rfl rfl oO oO) rfl ?_;refine za rfl (zz (i ?_));refine ⟨rfl,k-1,?_,?_,?_⟩
  ·exact SLp
  ·exact ⟨by omega,by rw[b4j b oO oO];exact f,rfl⟩
  omega
 refine CW.exit ?_;refine n (Sr λ_ j=>zm rfl (za rfl (zz (j ?_))));refine zr (zr1 rfl rfl ?_);rw[cut_wd d b f oO];exact ⟨NU.part a d p b oO,rfl⟩
theorem b9x(v:Value)(l:List Nat)(w:World)(h:NU w v l):Ret Tryz.prog 206 [v] w λu w'=>NU w' u (wd (val l))/\Chg [] w w':=by
 obtain ⟨⟨O,J,rfl,C,d⟩,i,I⟩:=h;have a:=crf w;refine zE1 Tryz.func206 rfl ?_;refine Sr λ_ A=>za rfl (zz (A (Sr λ_ z=>zm rfl (zn rfl (za rfl (zz (z (zc λ_ y=>CW.block ?_))))))));refine CW.loop (S:=λk:Nat=>[(0,.slice O l.length J),(3,.int .i64 (k:Int))]) (Inv:=K0 l w) (mu:=λk=>k) (l.length) ?_ ?_ ?_
 ·exact ⟨Nat.le_refl _,by rw[List.take_length],rfl⟩
 ·exact SLp
 rintro k _ ⟨q,p,rfl⟩;refine zc λ_ x=>?_;refine CW.oX 16 (decide (0<k/\l.getD (k-1) 0=0)) ?_ ?_
 ·refine zS λ_ m=>zm rfl (zG rfl rfl (zm rfl ?_));refine zb ?_ ?_<;>intro B<;>try simp only[qs] at B
  ·refine zw rfl (zm rfl (zw rfl (zm rfl (zw rfl ?_))))
   first|refine WL.ev (Ev.dX rfl rfl oO) rfl ?_|refine WL.ev (Ev.sub rfl rfl) rfl ?_
   refine zw rfl ?_;refine WL.ev (Ev.ixR ((k-1)) rfl rfl (d.q8 a) oO oO oT) rfl ?_;refine zw rfl ?_;refine WL.ev (Ev.load rfl rfl ((d.q8 a).u32 oF)) rfl ?_;have G:=i.getD ((k-1));refine zw rfl (zq rfl rfl (zt rfl rfl (zz (m ?_))));refine ⟨rfl,rfl,j0.g8 rfl ?_ ?_⟩
   ·first|(simp;omega)|(refine decide_eq_decide.2 ?_;omega)
   exact SMg
  refine zv rfl (zv rfl (zv rfl (zv rfl (zv rfl (zv rfl (ze rfl rfl (zz (m ?_))))))));refine ⟨rfl,rfl,j0.g8 rfl ?_ ?_⟩
  ·first|(simp;omega)|(refine decide_eq_decide.2 ?_;omega)
  exact SMg
 refine zy rfl ?_ ?_<;>intro D<;>try simp only[qs] at D
 ·refine zkk (x (CW.block (zS λ_ s=>zm rfl ?_)))
  first|refine WL.ev (Ev.dX rfl rfl oO) rfl ?_|refine WL.ev (Ev.sub rfl rfl) rfl ?_
  refine za rfl (zz (s ?_));refine ⟨rfl,k-1,?_,?_,?_⟩
  ·exact SLp
  ·exact ⟨by omega,by rw[b4j q oO oO];exact p,rfl⟩
  omega
 refine CW.exit ?_;refine y (Sr λ_ t=>zm rfl ?_);refine WL.bcq (k) (k) rfl rfl oO oO oO oO oO rfl λM F b f e=>?_;have j:=Nat.le_trans a.size e;have a:=a.ta f;refine za rfl (zz (t (Sr λ_ o=>zm rfl (zm rfl ?_))));refine WL.copyU rfl rfl b (d.q8 a) (by simp;try omega) (by simp;try omega) rfl λH g r=>?_;have a:=a.s1 r;have b:=g;rw[show ((l).take (min ((l).length) (k))++(List.replicate (k) 0).drop (min ((l).length) (k)))=l.take k from by rw[show min l.length k=k by omega,List.drop_eq_nil_of_le oS,List.append_nil]] at b;refine zz (o (Sr λ_ n=>zm rfl (za rfl (zz (n ?_)))));refine zr (zr1 rfl rfl ?_);rw[cut_wd i q p oO];exact ⟨NU.nX b (i.take k) oT oT (Nat.le_refl _),a⟩
theorem b8j(n:Nat)(w:World)(o:n<18446744073709551616):Ret Tryz.prog 134 [.int .u64 (n:Int)] w λu w'=>NU w' u (wd n)/\Chg [] w w':=by
 refine zE1 Tryz.func134 rfl ?_;refine Sr λ_ d=>za rfl (zz (d (Sr λ_ a=>zm rfl ?_)));refine WL.ev (Ev.tJ rfl rfl) rfl ?_;refine zm rfl ?_;refine WL.ev (Ev.avx (b:=32) rfl rfl (by simp only[IntKind.bits];omega)) rfl ?_;refine WL.ev (Ev.tJ rfl rfl) rfl ?_;refine WL.buildSlice (cs:=[.int .u32 ((n%4294967296:Nat):Int),.int .u32 ((n/2^32%4294967296:Nat):Int)]) oD oD rfl oR rfl λl i g=>?_;have f:NU i (.slice (some ⟨l,0,none⟩) 2 2) [n%4294967296,n/2^32%4294967296]:=NU.nX (E:=162) g.at_ (zX.2 ⟨by omega,zX.2 ⟨by omega,ayx⟩⟩) oS rfl oO;have e:val [n%4294967296,n/2^32%4294967296]=n:=by simp only[val];omega
 refine WL.call hasF206 rfl rfl (b9x _ _ _ f) λv m k=>?_;obtain ⟨h,j⟩:=k;rw[e] at h;refine za rfl (zz (a ?_));refine zr (zr1 rfl rfl ?_);exact ⟨h,g.chg.trans j⟩
theorem dxq(v:Value)(l:List Nat)(w:World)(h:NU w v l):Ret Tryz.prog 215 [v] w λu w'=>u = .tuple [.int .u64 ((if val l<18446744073709551616 then val l else 0:Nat):Int),.int .i64 (if val l<18446744073709551616 then 0 else 2)].toArray/\w=w':=by
 have j:(wd (val l)).length<=2↔val l<18446744073709551616:=aX (n:=val l) (k:=2);have g:=g7 (val l);obtain ⟨L,V⟩ : ∃ L,L=wd (val l):=⟨_,rfl⟩;rw[<- V] at j g;refine zE1 Tryz.func215 rfl ?_;refine Sr λ_ H=>za rfl (za rfl (zz (H (Sr λ_ G=>za rfl (zz (G (zc λ_ q=>Sr λ_ F=>zm rfl ?_)))))));refine WL.call hasF212 rfl rfl (a4x _ _ _ h) λv w1 h'=>?_;obtain ⟨U,rfl⟩:=h';rw[<- V] at U;obtain ⟨⟨a1,c1,rfl,J,a⟩,d,a0⟩:=U;refine za rfl (zz (F (CW.block (Sr λ_ D=>zm rfl (zn rfl (zG rfl rfl (za rfl (zz (D ?_)))))))));refine zy rfl ?_ ?_<;>intro R<;>try simp only[qs] at R
 ·refine Sr λ_ B=>za rfl (za rfl (zz (B ?_)));refine zr (zr2 rfl rfl rfl ?_);rw[if_neg oO,if_neg oO];exact ⟨rfl,rfl⟩
 refine Sr λ_ A=>zm rfl (zn rfl (zq rfl rfl (za rfl (zz (A ?_)))));refine zy rfl ?_ ?_<;>intro Q<;>try simp only[qs] at Q
 ·have Z:=val_two (l:=L) oO;have Y:=d.getD 0
  have X:=d.getD 1;refine zR λ_ p=>?_;refine zm rfl ?_;refine WL.ev (Ev.ixR (1) rfl rfl a oO oO oT) rfl ?_;refine WL.ev (Ev.load rfl rfl (a.u32 oF)) rfl ?_;have T:=d.getD (1);refine WL.ev (Ev.eZ rfl rfl (jX oO)) rfl ?_;refine WL.ev (Ev.aqx (b:=32) rfl rfl) rfl ?_;refine za rfl ?_;refine WL.nil (p _ _ _ (q ?_));refine zc λ_ z=>Sr λ_ y=>zm rfl (zn rfl (zG rfl rfl (zz (y ?_))));refine zy rfl ?_ ?_<;>intro O<;>try simp only[qs] at O
  ·refine zR λ_ o=>?_
   refine zm rfl (zm rfl ?_);refine WL.ev (Ev.ixR (0) rfl rfl a oO oO oT) rfl ?_;refine WL.ev (Ev.load rfl rfl (a.u32 oF)) rfl ?_;have C:=d.getD (0);refine WL.ev (Ev.eZ rfl rfl (jX oO)) rfl ?_;refine WL.ev (Ev.orU rfl rfl rfl (by simp only[IntKind.bits];omega) (by simp only[IntKind.bits];omega)) rfl ?_;refine za rfl ?_;refine WL.nil (o _ _ _ (z ?_));refine Sr λ_ x=>zm rfl (za rfl (za rfl (zz (x ?_))));refine zr (zr2 rfl rfl rfl ?_);have e:L.getD 1 0*2^32%18446744073709551616||| L.getD 0 0=val l:=by
    rw[Nat.mod_eq_of_lt oO,Nat.or_comm,agj oO];omega
   rw[e,if_pos oO,if_pos oO];exact ⟨rfl,rfl⟩
  exfalso;omega
 refine zkk (q (zc λ_ f=>Sr λ_ t=>zm rfl (zn rfl (zG rfl rfl (zz (t ?_))))));refine zy rfl ?_ ?_<;>intro M<;>try simp only[qs] at M
 ·have i:=val_one (l:=L) oO;refine zR λ_ m=>?_
  refine zm rfl (zm rfl ?_);refine WL.ev (Ev.ixR (0) rfl rfl a oO oO oT) rfl ?_;refine WL.ev (Ev.load rfl rfl (a.u32 oF)) rfl ?_;have C:=d.getD (0);refine WL.ev (Ev.eZ rfl rfl (jX oO)) rfl ?_;refine WL.ev (Ev.orU rfl rfl rfl (by simp only[IntKind.bits];omega) (by simp only[IntKind.bits];omega)) rfl ?_;refine za rfl ?_;refine WL.nil (m _ _ _ (f ?_));refine Sr λ_ s=>zm rfl (za rfl (za rfl (zz (s ?_))));refine zr (zr2 rfl rfl rfl ?_);rw[Nat.zero_or,if_pos oO,if_pos oO,<- g,i];exact ⟨rfl,rfl⟩
 have I:L=[]:=List.length_eq_zero_iff.1 oO;have i:val l=0:=by rw[<- g,I];rfl
 refine zkk (f (Sr λ_ r=>zm rfl (za rfl (za rfl (zz (r ?_))))));refine zr (zr2 rfl rfl rfl ?_);rw[if_pos oO,if_pos oO,i];exact ⟨rfl,rfl⟩
theorem a4j(v:Value)(l:List Nat)(w:World)(h:NU w v l):Ret Tryz.prog 139 [v] w λu w'=>u = .int .i64 (bl (val l):Int)/\w=w':=by
 have d:=g7 (val l);obtain ⟨L,k⟩ : ∃ L,L=wd (val l):=⟨_,rfl⟩;rw[<- k] at d;refine zE1 Tryz.func139 rfl ?_;refine Sr λ_ q=>za rfl (zz (q (zc λ_ p=>Sr λ_ o=>zm rfl ?_)));refine WL.call hasF212 rfl rfl (a4x _ _ _ h) λv C t=>?_;obtain ⟨z,rfl⟩:=t;rw[<- k] at z;obtain ⟨⟨F,D,rfl,s,i⟩,b,A⟩:=z;refine za rfl (zz (o (Sr λ_ n=>zm rfl (zn rfl (zq rfl rfl (zz (n ?_)))))));refine zy rfl ?_ ?_<;>intro a<;>try simp only[qs] at a
 ·refine Sr λ_ m=>za rfl (zz (m ?_));refine zr (zr1 rfl rfl ?_);have r:L=[]:=List.length_eq_zero_iff.1 oO;rw[<- d,r];exact ⟨rfl,rfl⟩
 have f:L.getD (L.length-1) 0≠0:=by rw[k];exact cix λe=>by rw[e,fX] at k;rw[k] at a;exact a rfl
 have j:=bl_val b (λe=>by rw[e] at a;exact a rfl) f;rw[d] at j;have y:=vQ.2 (show L.getD (L.length-1) 0<2^32 from b.getD _);refine zkk (p (Sr λ_ g=>zm rfl (zn rfl ?_)))
 first|refine WL.ev (Ev.dX rfl rfl oO) rfl ?_|refine WL.ev (Ev.sub rfl rfl) rfl ?_
 refine WL.ev (Ev.c1q rfl rfl oO) rfl ?_;refine zm rfl (zm rfl (zn rfl ?_))
 first|refine WL.ev (Ev.dX rfl rfl oO) rfl ?_|refine WL.ev (Ev.sub rfl rfl) rfl ?_
 refine WL.ev (Ev.ixR (((L).length-1)) rfl rfl i oO oO oT) rfl ?_;refine WL.ev (Ev.load rfl rfl (i.u32 oF)) rfl ?_;have x:=b.getD (((L).length-1));refine WL.call hasF213 rfl rfl (Len32_spec _ _ (b.getD _)) λv B t=>?_;obtain ⟨rfl,rfl⟩:=t;(first|refine zi rfl rfl ?_|refine zo rfl rfl ?_);refine za rfl (zz (g ?_));refine zr (zr1 rfl rfl ?_);refine ⟨?_,rfl⟩;rw[j];first|rfl|(congr 1;omega)
structure KL(l:List Nat)(w:World)(i:Nat)(wr:World):Prop where
  le:i<=l.length
  z:val (l.take i)=0
  eq:w=wr
theorem Low_spec(v:Value)(l:List Nat)(w:World)(h:NU w v l)(I:GW w):Ret Tryz.prog 207 [v] w λu w'=>u = .int .i64 (tz (val l):Int)/\w=w':=by
 obtain ⟨⟨O,M,rfl,z,k⟩,a,G⟩:=h;have m:=crf w;refine zE1 Tryz.func207 rfl ?_;refine Sr λ_ x=>za rfl (zz (x (zc λ_ t=>Sr λ_ s=>zm rfl (zn rfl (zm rfl (zz (s (CW.block ?_))))))));refine CW.loop (S:=λi:Nat=>[(5,.slice O l.length M),(6,.int .i64 (l.length:Int)),(7,.int .i64 (i:Int))]) (Inv:=KL l w) (mu:=λi=>l.length-i) (0) ?_ ?_ ?_
 ·exact ⟨Nat.zero_le _,rfl,rfl⟩
 ·exact SLp
 rintro i _ ⟨H,o,rfl⟩;refine Sr λ_ r=>zL rfl rfl (zz (r (zc λ_ q=>?_)));refine zy rfl ?_ ?_<;>intro B<;>try simp only[qs] at B
 ·refine zkk (q (zc λ_ p=>CW.block (Sr λ_ j=>zm rfl ?_)));refine WL.ev (Ev.ixR (i) rfl rfl (k.q8 m) oO oO oT) rfl ?_
  refine WL.ev (Ev.load rfl rfl ((k.q8 m).u32 oF)) rfl ?_;have C:=a.getD (i);refine za rfl (za rfl (zz (j (Sr λ_ g=>zm rfl (zN rfl rfl (zz (g ?_)))))));refine zy rfl ?_ ?_<;>intro A<;>try simp only[qs] at A
  ·have y:=tz_words a oO o oO;have F:=zJ (n:=l.getD i 0) oO;have D:=vQ.2 (show l.getD i 0<2^32 from a.getD _);refine Sr λ_ f=>zm rfl ?_
   refine WL.ev (Ev.c1q rfl rfl oO) rfl ?_;refine zm rfl ?_;refine WL.call hasF249 rfl rfl (b3x _ _ I oO (a.getD _)) λv Q J=>?_;obtain ⟨rfl,rfl⟩:=J;(first|refine zi rfl rfl ?_|refine zo rfl rfl ?_);refine za rfl (zz (f ?_));refine zr (zr1 rfl rfl ?_);refine ⟨?_,rfl⟩;rw[y];first|rfl|(congr 1;omega)
  refine zkk (p (zS λ_ b=>?_));(first|refine zi rfl rfl ?_|refine zo rfl rfl ?_);refine zm rfl (zz (b ?_));refine ⟨rfl,i+1,?_,?_,?_⟩
  ·exact SLp
  ·exact ⟨by omega,by rw[gZ l i,o,(by omega:l.getD i 0=0)];simp,rfl⟩
  show l.length-(i+1)<l.length-i;omega
 refine CW.exit ?_;refine t (Sr λ_ d=>za rfl (zz (d ?_)));refine zr (zr1 rfl rfl ?_);have e:i=l.length:=by omega
 subst e;rw[List.take_length] at o;rw[o,tz_zero];exact ⟨rfl,rfl⟩
theorem b9j{l:List Nat}(h:W l)(n:Nat):(val l).testBit n=decide (l.getD (n/32) 0/2^(n%32)%2=1):=by
  rw[dsx h,Nat.testBit_eq_decide_div_mod_eq]
  refine decide_eq_decide.2 ?_
  have e:val l/2^n=val l/2^(32*(n/32))/2^(n%32):=by
    rw[Nat.div_div_eq_div_mul,<- Nat.pow_add,show 32*(n/32)+n%32=n by omega]
  rw[e]
  generalize val l/2^(32*(n/32))=q
  have b:n%32<32:=Nat.mod_lt _ oD
  generalize n%32=r at *
  have a:(4294967296:Nat)=2^r*(2*2^(31-r)):=by
    rw[show 2*2^(31-r)=2^(32-r) by rw[Nat.mul_comm,<- Nat.pow_succ,show (31-r).succ=32-r by omega],<- Nat.pow_add,show r+(32-r)=32 by omega]
  rw[a,Nat.mod_mul_right_div_self,Nat.mod_mul_right_mod]
theorem Bit_spec(v:Value)(l:List Nat)(i:Int)(w:World)(h:NU w v l)(s : -9223372036854775808<=i/\i<=9223372036854775807):Ret Tryz.prog 217 [v,.int .i64 i] w λu w'=>u = .bool (decide (0<=i)&&(val l).testBit i.toNat)/\w=w':=by
 obtain ⟨⟨x,t,rfl,o,e⟩,g,r⟩:=h;have f:=crf w;refine zE2 Tryz.func217 rfl ?_;refine Sr λ_ j=>za rfl (zz (j (Sr λ_ a=>zm rfl ?_)));refine WL.ev (Ev.geq rfl rfl) rfl ?_;refine zm rfl ?_;refine zb ?_ ?_<;>intro m<;>try simp only[qs] at m
 ·obtain ⟨n,rfl⟩ : ∃ n:Nat,i=(n:Int):=⟨i.toNat,by omega⟩
  have d:=b9j g n;refine zw rfl (zm rfl (zw rfl ?_));refine WL.ev (Ev.dlq (b:=32) rfl rfl oO (tX oO).2) rfl ?_;refine zw rfl (zm rfl (zw rfl (zn rfl (zw rfl (zL rfl rfl (zt rfl rfl (zm rfl ?_)))))));refine zb ?_ ?_<;>intro k<;>try simp only[qs] at k
  ·refine zw rfl (zm rfl (zw rfl (zm rfl (zw rfl ?_))));refine WL.ev (Ev.dlq (b:=32) rfl rfl oO (tX oO).2) rfl ?_
   refine zw rfl ?_;refine WL.ev (Ev.ixR ((n/32)) rfl rfl (e.q8 f) oO oO oT) rfl ?_;refine zw rfl ?_;refine WL.ev (Ev.load rfl rfl ((e.q8 f).u32 oF)) rfl ?_;have p:=g.getD ((n/32));refine zw rfl (zm rfl (zw rfl ?_));refine WL.ev (Ev.dhx (b:=32) rfl rfl oO) rfl ?_;refine zw rfl ?_;refine WL.ev (Ev.avx rfl rfl (by simp only[IntKind.bits];omega)) rfl ?_;have q:l.getD (n/32) 0/2^(n%32)<=l.getD (n/32) 0:=Nat.div_le_self _ _;refine zw rfl ?_;refine WL.ev (Ev.andU (b:=1) rfl rfl rfl (by simp only[IntKind.bits];omega) (by simp only[IntKind.bits];omega)) rfl ?_;rw[Nat.and_one_is_mod];refine zw rfl (zq rfl rfl (zt rfl rfl (za rfl (zz (a ?_)))));refine zr (zr1 rfl rfl ?_);refine ⟨?_,rfl⟩;rw[show (n:Int).toNat=n by omega,d,decide_eq_true (show (0:Int)<=(n:Int) by omega),Bool.true_and]
   congr 1
   refine decide_eq_decide.2 ?_;omega
  refine zv rfl (zv rfl (zv rfl (zv rfl (zv rfl (zv rfl (zv rfl (zv rfl (zv rfl (zv rfl (ze rfl rfl (za rfl (zz (a ?_)))))))))))));refine zr (zr1 rfl rfl ?_);refine ⟨?_,rfl⟩;rw[show (n:Int).toNat=n by omega,d,aaj oO];simp
 refine zv rfl (zv rfl (zv rfl (zv rfl (zv rfl (ze rfl rfl (zm rfl (zv rfl (zv rfl (zv rfl (zv rfl (zv rfl (zv rfl (zv rfl (zv rfl (zv rfl (zv rfl (ze rfl rfl (za rfl (zz (a ?_))))))))))))))))))));refine zr (zr1 rfl rfl ?_);refine ⟨?_,rfl⟩;rw[decide_eq_false oO,Bool.false_and]
theorem cxx(G F:Value)(e d:List Nat)(w:World)(O:NU w G e)(M:NU w F d):Ret Tryz.prog 209 [G,F] w λu w'=>((((wd (val e)).length<=8192/\(wd (val d)).length<=8192)/\∃ x y,u = .tuple [x,y,.int .i64 0].toArray/\NU w x (wd (val e))/\NU w y (wd (val d)))\/(¬((wd (val e)).length<=8192/\(wd (val d)).length<=8192)/\u = .tuple [.slice none 0 0,.slice none 0 0,.int .i64 2].toArray))/\w=w':=by
 obtain ⟨A,j⟩ : ∃ A,A=wd (val e):=⟨_,rfl⟩;have I:val A=val e:=by rw[j];exact g7 _
 obtain ⟨B,i⟩ : ∃ B,B=wd (val d):=⟨_,rfl⟩;have H:val B=val d:=by rw[i];exact g7 _
 have J:=crf w;refine zE2 Tryz.func209 rfl ?_;refine Sr λ_ o=>za rfl (za rfl (za rfl (zz (o (Sr λ_ n=>zm rfl ?_)))));refine WL.call hasF212 rfl rfl (a4x _ _ _ O) λv R D=>?_;obtain ⟨h,rfl⟩:=D;rw[<- j] at h;obtain ⟨⟨X,U,rfl,b,q⟩,C,s⟩:=h;refine zm rfl ?_;refine WL.call hasF212 rfl rfl (a4x _ _ _ M) λv Q D=>?_;obtain ⟨g,rfl⟩:=D;rw[<- i] at g;obtain ⟨⟨V,T,rfl,a,p⟩,z,r⟩:=g;refine za rfl (za rfl (zz (n (zc λ_ m=>Sr λ_ l=>zm rfl (zn rfl (zm rfl (zn rfl ?_)))))));refine WL.ev (Ev.maxI rfl rfl) rfl ?_;refine zG rfl rfl (zz (l ?_));refine zy rfl ?_ ?_<;>intro t<;>try simp only[qs] at t
 ·refine Sr λ_ k=>za rfl (za rfl (za rfl (zz (k ?_))));refine zr ?_
  refine k9.ret3 rfl rfl rfl rfl ?_;rw[<- j,<- i];exact ⟨.inr ⟨by omega,rfl⟩,rfl⟩
 refine zkk (m (Sr λ_ f=>zm rfl (zm rfl (za rfl (za rfl (za rfl (zz (f ?_))))))));refine zr ?_;refine k9.ret3 rfl rfl rfl rfl ?_;rw[<- j,<- i];exact ⟨.inl ⟨by omega,_,_,rfl,NU.adx q C s rfl b,NU.adx p z r rfl a⟩,rfl⟩
theorem b8x(v:Value)(l:List Nat)(w:World)(h:NU w v l):Ret Tryz.prog 210 [v] w λu w'=>(((wd (val l)).length<=8192/\∃ r,u = .tuple [r,.int .i64 0].toArray/\NU w r (wd (val l)))\/(8192<(wd (val l)).length/\u = .tuple [.slice none 0 0,.int .i64 2].toArray))/\w=w':=by
 obtain ⟨A,d⟩ : ∃ A,A=wd (val l):=⟨_,rfl⟩;have q:val A=val l:=by rw[d];exact g7 _
 have s:=crf w;refine zE1 Tryz.func210 rfl ?_;refine Sr λ_ j=>za rfl (za rfl (zz (j (zc λ_ i=>Sr λ_ g=>zm rfl ?_))));refine WL.call hasF212 rfl rfl (a4x _ _ _ h) λv x t=>?_;obtain ⟨b,rfl⟩:=t;rw[<- d] at b;obtain ⟨⟨z,y,rfl,n,k⟩,p,m⟩:=b;refine za rfl (zz (g (Sr λ_ f=>zm rfl (zn rfl (zG rfl rfl (zz (f ?_)))))));refine zy rfl ?_ ?_<;>intro o<;>try simp only[qs] at o
 ·refine Sr λ_ e=>za rfl (za rfl (zz (e ?_)));refine zr (zr2 rfl rfl rfl ?_);rw[<- d];exact ⟨.inr ⟨by omega,rfl⟩,rfl⟩
 refine zkk (i (Sr λ_ a=>zm rfl (zm rfl (zn rfl (zm rfl (zn rfl ?_))))));refine WL.ev (Ev.slice3n ((A).length) ((A).length) rfl rfl rfl oO oO oO oO) rfl ?_;refine za rfl (za rfl (zz (a ?_)));refine zr (zr2 rfl rfl rfl ?_);rw[<- d];exact ⟨.inl ⟨by omega,_,rfl,NU.adx k p m rfl (Nat.le_refl _)⟩,rfl⟩
structure KA(X Y:List Nat)(w:World)(b:Nat)(g:Nat×List Nat×Nat)(wr:World):Prop where
  a:dzx X Y g.1 g.2.1 g.2.2
  ob:OB wr b 162 g.2.1
  chg:Chg [] w wr
theorem dyj(va vb:Value)(m l:List Nat)(w:World)(ha:NU w va m)(hb:NU w vb l):Ret Tryz.prog 274 [va,vb] w λu w'=>(((wd (val m)).length<=8192/\(wd (val l)).length<=8192/\(wd (val m+val l)).length<=8192/\∃ r,u = .tuple [r,.int .i64 0].toArray/\NU w' r (wd (val m+val l)))\/(¬((wd (val m)).length<=8192/\(wd (val l)).length<=8192/\(wd (val m+val l)).length<=8192)/\u = .tuple [.slice none 0 0,.int .i64 2].toArray))/\Chg [] w w':=by
 have a:=crf w;refine zE2 Tryz.func274 rfl ?_;refine Sr λ_ d7=>za rfl (za rfl (zz (d7 (Sr λ_ V=>zm rfl (zm rfl ?_)))));refine WL.call hasF209 rfl rfl (cxx _ _ _ _ _ ha hb) λv g4 f=>?_;obtain ⟨f,rfl⟩:=f;rcases f with ⟨s,x,y,rfl,d0,c9⟩|⟨h1,rfl⟩
 ·obtain ⟨A,k⟩ : ∃ A,A=wd (val m):=⟨_,rfl⟩;have h0:val A=val m:=by rw[k];exact g7 _
  obtain ⟨B,hB⟩ : ∃ B,B=wd (val l):=⟨_,rfl⟩;have g9:val B=val l:=by rw[hB];exact g7 _
  have j:=s;rw[<- k,<- hB] at s;rw[<- k] at d0;rw[<- hB] at c9;obtain ⟨⟨a1,c1,rfl,d9,b5⟩,c8,h3⟩:=d0;obtain ⟨⟨a2,c2,rfl,d8,b4⟩,c7,h2⟩:=c9;refine zm rfl (zx rfl rfl (zx rfl rfl (zx rfl rfl (za rfl (za rfl (za rfl (zz (V (zc λ_ d6=>Sr λ_ d5=>zm rfl (zN rfl rfl (zz (d5 ?_))))))))))));refine CW.mQ rfl ?_;refine zkk (d6 ?_);refine CW.anj (λD s' w'=>D=[]/\w=w'/\∃ xa ca xb cb X Y,RW w xa (X.map kZ)/\W X/\RW w xb (Y.map kZ)/\W Y/\Y.length<=X.length/\X.length<=8192/\val X+val Y=val m+val l/\j0 [(0,.slice xa X.length ca),(1,.slice xb Y.length cb)] s') ?_ ?_
  ·refine Sr λ_ d4=>zm rfl (zn rfl (zm rfl (zn rfl (zL rfl rfl (zz (d4 ?_))))));refine zy rfl ?_ ?_<;>intro c6<;>try simp only[qs] at c6
   ·refine zS λ_ O=>zm rfl (zm rfl (za rfl (za rfl (zz (O ?_)))));exact ⟨rfl,rfl,a2,c2,a1,c1,B,A,b4,c7,b5,c8,by omega,by omega,by omega,(by repeat (first|exact j0.nil|refine j0.cons rfl ?_))⟩
   refine zkk ?_;exact ⟨rfl,rfl,a1,c1,a2,c2,A,B,b5,c8,b4,c7,by omega,by omega,by omega,(by repeat (first|exact j0.nil|refine j0.cons rfl ?_))⟩
  rintro _ s' _ ⟨rfl,rfl,xa,ca,xb,cb,X,Y,h,e,b3,n,e2,f5,e3,b2⟩;refine CW.sub b2 ?_;refine Sr λ_ a9=>zm rfl (zn rfl ?_);(first|refine zi rfl rfl ?_|refine zo rfl rfl ?_);refine WL.bcq (((X).length+1)) (((X).length+1)) rfl rfl oO oO oO oO oO rfl λd1 e9 b z t=>?_;have C:=Nat.le_trans a.size t;have a:=a.ta z;refine za rfl (zz (a9 (Sr λ_ a8=>zm rfl (zm rfl ?_))));refine WL.copyU rfl rfl b (h.q8 a) (by simp;try omega) (by simp;try omega) rfl λg2 d c5=>?_;have a:=a.s1 c5;have b:=d;rw[show ((X).take (min ((X).length) (((X).length+1)))++(List.replicate (((X).length+1)) 0).drop (min ((X).length) (((X).length+1))))=(X++[0]) from by rw[show min X.length (X.length+1)=X.length by omega,List.take_length,List.drop_replicate,show X.length+1-X.length=1 by omega];rfl] at b;refine zz (a8 (Sr λ_ a7=>za rfl (zz (a7 (zc λ_ a6=>Sr λ_ a5=>zm rfl (zn rfl (zm rfl (zz (a5 (CW.block ?_))))))))));refine CW.loop (S:=λg:Nat×List Nat×Nat=>[(0,.slice xa X.length ca),(1,.slice xb Y.length cb),(7,.slice (some ⟨d1,0,none⟩) (X.length+1) (X.length+1)),(8,.int .u32 (g.2.2:Int)),(36,.int .i64 (X.length:Int)),(37,.int .i64 (g.1:Int))]) (Inv:=KA X Y w d1) (mu:=λg=>X.length-g.1) ((0,X++[0],0)) ?_ ?_ ?_
  ·exact ⟨dzx.zero oS (apq.2 ⟨e,zX.2 ⟨by omega,ayx⟩⟩),b,a⟩
  ·exact SLp
  rintro ⟨i,L,c⟩ wr ⟨k,b,a⟩;dsimp only at k b a;have h4:=k.le;have h7:=k.len;have c6:=k.c1;refine Sr λ_ a4=>zL rfl rfl (zz (a4 (zc λ_ a3=>?_)));refine zy rfl ?_ ?_<;>intro e1<;>try simp only[qs] at e1
  ·refine zkk (a3 (zc λ_ q=>CW.block (Sr λ_ a0=>zm rfl (za rfl (zz (a0 (Sr λ_ Z=>za rfl (zz (Z (zc λ_ p=>Sr λ_ U=>zm rfl (zm rfl (zn rfl (zL rfl rfl (zz (U ?_)))))))))))))));refine zy rfl ?_ ?_<;>intro e0<;>try simp only[qs] at e0
   ·refine zR λ_ M=>?_
    refine zm rfl (zm rfl ?_);refine WL.ev (Ev.ixR (i) rfl rfl (b3.q8 a) oO oO oT) rfl ?_;refine WL.ev (Ev.load rfl rfl ((b3.q8 a).u32 oF)) rfl ?_;have f4:=n.getD (i);refine za rfl ?_;refine WL.nil (M _ _ _ (p ?_));refine zR λ_ J=>?_;refine zm rfl (zm rfl (zm rfl (zm rfl ?_)));refine WL.ev (Ev.ixR (i) rfl rfl (h.q8 a) oO oO oT) rfl ?_;refine WL.ev (Ev.load rfl rfl ((h.q8 a).u32 oF)) rfl ?_;have b0:=e.getD (i);refine zm rfl (zm rfl ?_);refine WL.call hasF229 rfl rfl (bvj (X.getD i 0) (Y.getD i 0) c _ (e.getD i) (n.getD i) oO) λv w1 f=>?_;obtain ⟨rfl,rfl⟩:=f;refine zm rfl (zx rfl rfl (zx rfl rfl ?_));refine WL.ev (Ev.ixB (i) rfl rfl oO oO) rfl ?_;refine WL.tQ rfl rfl b oF λg1 d c4=>?_;have a:=a.s1 c4;have b:=d;refine za rfl ?_;refine WL.nil (J _ _ _ (q ?_));refine zS λ_ I=>?_;(first|refine zi rfl rfl ?_|refine zo rfl rfl ?_);refine zm rfl (zz (I ?_));refine ⟨rfl,(i+1,L.set i ((X.getD i 0+Y.getD i 0+c)%4294967296),(X.getD i 0+Y.getD i 0+c)/4294967296),?_,?_,?_⟩
    ·exact SLp
    ·exact ⟨k.step e n oO,b,a⟩
    show X.length-(i+1)<X.length-i;omega
   have g5:Y.getD i 0=0:=aaj oO;refine zkk (p ?_);refine zR λ_ H=>?_;refine zm rfl (zm rfl (zm rfl (zm rfl ?_)));refine WL.ev (Ev.ixR (i) rfl rfl (h.q8 a) oO oO oT) rfl ?_;refine WL.ev (Ev.load rfl rfl ((h.q8 a).u32 oF)) rfl ?_;have b0:=e.getD (i);refine zm rfl (zm rfl ?_);refine WL.call hasF229 rfl rfl (bvj (X.getD i 0) 0 c _ (e.getD i) oO oO) λv w2 f=>?_;obtain ⟨rfl,rfl⟩:=f;rw[show X.getD i 0+0+c=X.getD i 0+Y.getD i 0+c by omega];refine zm rfl (zx rfl rfl (zx rfl rfl ?_));refine WL.ev (Ev.ixB (i) rfl rfl oO oO) rfl ?_;refine WL.tQ rfl rfl b oF λg0 d c3=>?_;have a:=a.s1 c3;have b:=d;refine za rfl ?_;refine WL.nil (H _ _ _ (q ?_));refine zS λ_ G=>?_;(first|refine zi rfl rfl ?_|refine zo rfl rfl ?_);refine zm rfl (zz (G ?_));refine ⟨rfl,(i+1,L.set i ((X.getD i 0+Y.getD i 0+c)%4294967296),(X.getD i 0+Y.getD i 0+c)/4294967296),?_,?_,?_⟩
   ·exact SLp
   ·exact ⟨k.step e n oO,b,a⟩
   show X.length-(i+1)<X.length-i;omega
  refine CW.exit ?_;refine a6 (zc λ_ T=>?_);have b7:i=X.length:=by omega
  subst b7;obtain ⟨b1,e4,b6⟩:=k.done e2;rw[e3] at b1;refine zR λ_ F=>?_;refine zm rfl (zm rfl (zn rfl (zm rfl ?_)));refine WL.ev (Ev.ixB (X.length) rfl rfl oO oO) rfl ?_;refine WL.tQ rfl rfl b oF λf9 d b9=>?_;have a:=a.s1 b9;have b:=d;refine WL.nil (F _ _ _ (T ?_));refine Sr λ_ o=>zm rfl ?_;refine WL.call hasF210 rfl rfl (b8x _ _ _ (NU.nX b e4 (by rw[b6];omega) (by rw[b6]) (Nat.le_refl _))) λv g3 f=>?_;obtain ⟨f,rfl⟩:=f;rw[b1] at f;rcases f with ⟨b8,r,rfl,e5⟩|⟨b8,rfl⟩
  ·refine zx rfl rfl (zx rfl rfl (za rfl (za rfl (zz (o ?_)))));refine zr (zr2 rfl rfl rfl ?_);exact ⟨.inl ⟨j.1,j.2,b8,r,rfl,e5⟩,a⟩
  refine zx rfl rfl (zx rfl rfl (za rfl (za rfl (zz (o ?_)))));refine zr (zr2 rfl rfl rfl ?_);exact ⟨.inr ⟨by omega,rfl⟩,a⟩
 refine zm rfl (zx rfl rfl (zx rfl rfl (zx rfl rfl (za rfl (za rfl (za rfl (zz (V (zc λ_ f3=>Sr λ_ R=>zm rfl (zN rfl rfl (zz (R ?_))))))))))));refine CW.nJ rfl ?_;refine Sr λ_ Q=>zm rfl (za rfl (za rfl (zz (Q ?_))));refine zr (zr2 rfl rfl rfl ?_);exact ⟨.inr ⟨by omega,rfl⟩,Chg.refl _ _⟩
structure KS(X Y:List Nat)(w:World)(b:Nat)(g:Nat×List Nat×Nat)(wr:World):Prop where
  a:dwq X Y g.1 g.2.1 g.2.2
  ob:OB wr b 162 g.2.1
  chg:Chg [] w wr
theorem less_spec(va vb:Value)(d l:List Nat)(w:World)(ha:NU w va d)(hb:NU w vb l)(Z:val l<=val d):Ret Tryz.prog 230 [va,vb] w λu w'=>∃ L,NU w' u L/\val L=val d-val l/\Chg [] w w':=by
 obtain ⟨⟨a6,a4,rfl,R,k⟩,e,b2⟩:=ha;obtain ⟨⟨a5,a3,rfl,Q,o⟩,f,b1⟩:=hb;have a:=crf w;refine zE2 Tryz.func230 rfl ?_;refine Sr λ_ Y=>za rfl (zz (Y (Sr λ_ X=>zm rfl (zn rfl ?_))));refine WL.bcq ((d).length) ((d).length) rfl rfl oO oO oO oO oO rfl λO a7 b q p=>?_;have r:=Nat.le_trans a.size p;have a:=a.ta q;refine za rfl (zz (X (Sr λ_ V=>za rfl (zz (V (zc λ_ U=>Sr λ_ T=>zm rfl (zn rfl (zm rfl (zz (T (CW.block ?_)))))))))));refine CW.loop (S:=λg:Nat×List Nat×Nat=>[(0,.slice a6 d.length a4),(1,.slice a5 l.length a3),(5,.slice (some ⟨O,0,none⟩) d.length d.length),(6,.int .u32 (g.2.2:Int)),(13,.int .i64 (d.length:Int)),(14,.int .i64 (g.1:Int))]) (Inv:=KS d l w O) (mu:=λg=>d.length-g.1) ((0,List.replicate d.length 0,0)) ?_ ?_ ?_
 ·exact ⟨dwq.zero oS (oJ _),b,a⟩
 ·exact SLp
 rintro ⟨i,L,c⟩ wr ⟨h,b,a⟩;dsimp only at h b a;have b5:=h.le;have b9:=h.len;have b6:=h.c1;refine Sr λ_ G=>zL rfl rfl (zz (G (zc λ_ F=>?_)));refine zy rfl ?_ ?_<;>intro a1<;>try simp only[qs] at a1
 ·refine zkk (F (zc λ_ n=>CW.block (Sr λ_ D=>zm rfl (za rfl (zz (D (Sr λ_ C=>za rfl (zz (C (zc λ_ m=>Sr λ_ B=>zm rfl (zm rfl (zn rfl (zL rfl rfl (zz (B ?_)))))))))))))));refine zy rfl ?_ ?_<;>intro a0<;>try simp only[qs] at a0
  ·refine zR λ_ z=>?_
   refine zm rfl (zm rfl ?_);refine WL.ev (Ev.ixR (i) rfl rfl (o.q8 a) oO oO oT) rfl ?_;refine WL.ev (Ev.load rfl rfl ((o.q8 a).u32 oF)) rfl ?_;have b0:=f.getD (i);refine za rfl ?_;refine WL.nil (z _ _ _ (m ?_));refine zR λ_ y=>?_;refine zm rfl (zm rfl (zm rfl (zm rfl ?_)));refine WL.ev (Ev.ixR (i) rfl rfl (k.q8 a) oO oO oT) rfl ?_;refine WL.ev (Ev.load rfl rfl ((k.q8 a).u32 oF)) rfl ?_;have H:=e.getD (i);refine zm rfl (zm rfl ?_);refine WL.call hasF255 rfl rfl (dwj (d.getD i 0) (l.getD i 0) c _ (e.getD i) (f.getD i) oO) λv w1 h'=>?_;obtain ⟨rfl,rfl⟩:=h';refine zm rfl (zx rfl rfl (zx rfl rfl ?_));refine WL.ev (Ev.ixB (i) rfl rfl oO oO) rfl ?_;refine WL.tQ rfl rfl b oF λb4 j M=>?_;have a:=a.s1 M;have b:=j;refine za rfl ?_;refine WL.nil (y _ _ _ (n ?_));refine zS λ_ x=>?_;(first|refine zi rfl rfl ?_|refine zo rfl rfl ?_);refine zm rfl (zz (x ?_));refine ⟨rfl,(i+1,L.set i ((d.getD i 0+8589934592-l.getD i 0-c)%4294967296),if d.getD i 0<l.getD i 0+c then 1 else 0),?_,?_,?_⟩
   ·exact SLp
   ·exact ⟨h.step e f oO,b,a⟩
   show d.length-(i+1)<d.length-i;omega
  have e0:Value.int IntKind.u32 0=Value.int IntKind.u32 ((l.getD i 0:Nat):Int):=by rw[aaj oO];rfl
  rw[e0];refine zkk (m ?_);refine zR λ_ t=>?_;refine zm rfl (zm rfl (zm rfl (zm rfl ?_)));refine WL.ev (Ev.ixR (i) rfl rfl (k.q8 a) oO oO oT) rfl ?_;refine WL.ev (Ev.load rfl rfl ((k.q8 a).u32 oF)) rfl ?_;have H:=e.getD (i);refine zm rfl (zm rfl ?_);refine WL.call hasF255 rfl rfl (dwj (d.getD i 0) (l.getD i 0) c _ (e.getD i) (f.getD i) oO) λv w2 h'=>?_;obtain ⟨rfl,rfl⟩:=h';refine zm rfl (zx rfl rfl (zx rfl rfl ?_));refine WL.ev (Ev.ixB (i) rfl rfl oO oO) rfl ?_;refine WL.tQ rfl rfl b oF λb3 j J=>?_;have a:=a.s1 J;have b:=j;refine za rfl ?_;refine WL.nil (t _ _ _ (n ?_));refine zS λ_ s=>?_;(first|refine zi rfl rfl ?_|refine zo rfl rfl ?_);refine zm rfl (zz (s ?_));refine ⟨rfl,(i+1,L.set i ((d.getD i 0+8589934592-l.getD i 0-c)%4294967296),if d.getD i 0<l.getD i 0+c then 1 else 0),?_,?_,?_⟩
  ·exact SLp
  ·exact ⟨h.step e f oO,b,a⟩
  show d.length-(i+1)<d.length-i;omega
 refine CW.exit ?_;refine U (Sr λ_ A=>zm rfl (za rfl (zz (A ?_))));refine zr (zr1 rfl rfl ?_);have I:i=d.length:=by omega
 subst I;exact ⟨L,NU.nX b h.w oO oO (Nat.le_refl _),h.done e f Z,a⟩
structure KC(A B:List Nat)(w:World)(k:Nat)(wr:World):Prop where
  le:k<=A.length
  eq:A.drop k=B.drop k
  chg:Chg [] w wr
theorem dyq(va vb:Value)(n m:List Nat)(w:World)(ha:NU w va n)(hb:NU w vb m):Ret Tryz.prog 169 [va,vb] w λu w'=>u = .int .i64 (sgn (val n) (val m))/\Chg [] w w':=by
 obtain ⟨A,V⟩ : ∃ A,A=wd (val n):=⟨_,rfl⟩;have M:val A=val n:=by rw[V];exact g7 _
 obtain ⟨B,U⟩ : ∃ B,B=wd (val m):=⟨_,rfl⟩;have J:val B=val m:=by rw[U];exact g7 _
 have d:=crf w;refine zE2 Tryz.func169 rfl ?_;refine Sr λ_ a3=>za rfl (zz (a3 (Sr λ_ a0=>zm rfl ?_)));refine WL.call hasF212 rfl rfl (a4x _ _ _ ha) λv w1 h'=>?_;obtain ⟨R,rfl⟩:=h';rw[<- V] at R;obtain ⟨⟨a1,c1,rfl,a7,g⟩,l,c6⟩:=R;refine zm rfl ?_;refine WL.call hasF212 rfl rfl (a4x _ _ _ hb) λv w2 h'=>?_;obtain ⟨Q,rfl⟩:=h';rw[<- U] at Q;obtain ⟨⟨a2,c2,rfl,a6,f⟩,j,c5⟩:=Q;refine za rfl (za rfl (zz (a0 (zc λ_ Z=>CW.block (Sr λ_ Y=>zm rfl (zn rfl (zm rfl (zn rfl (zL rfl rfl (za rfl (zz (Y ?_))))))))))));refine zy rfl ?_ ?_<;>intro b2<;>try simp only[qs] at b2
 ·refine Sr λ_ X=>za rfl (zz (X ?_));refine zr (zr1 rfl rfl ?_);have O:=c7x (a:=val n) (b:=val m);rw[<- V,<- U] at O;rw[O.1 oO];exact ⟨rfl,d⟩
 refine Sr λ_ I=>zm rfl (zn rfl (zm rfl (zn rfl (zG rfl rfl (za rfl (zz (I ?_)))))));refine zy rfl ?_ ?_<;>intro b1<;>try simp only[qs] at b1
 ·refine Sr λ_ H=>za rfl (zz (H ?_));refine zr (zr1 rfl rfl ?_);have O:=c7x (a:=val n) (b:=val m);rw[<- V,<- U] at O;rw[O.2 oO];exact ⟨rfl,d⟩
 have T:A.length=B.length:=by omega
 refine zkk (Z (zc λ_ G=>Sr λ_ F=>zm rfl (zn rfl ?_)))
 first|refine WL.ev (Ev.dX rfl rfl oO) rfl ?_|refine WL.ev (Ev.sub rfl rfl) rfl ?_
 refine za rfl (zz (F (CW.block ?_)));refine CW.loop (S:=λk:Nat=>[(0,.slice a1 A.length c1),(1,.slice a2 B.length c2),(5,.int .i64 ((k:Int)-1))]) (Inv:=KC A B w) (mu:=λk=>k) (A.length) ?_ ?_ ?_
 ·exact ⟨Nat.le_refl _,by rw[List.drop_length,T,List.drop_length],d⟩
 ·exact SLp
 rintro k wr ⟨c7,h,d⟩;refine zc λ_ D=>Sr λ_ C=>zm rfl ?_;refine WL.ev (Ev.geq rfl rfl) rfl ?_;refine zz (C ?_);refine zy rfl ?_ ?_<;>intro b0<;>try simp only[qs] at b0
 ·have a4:k-1+1=k:=by omega
  have e:=dfq l j T (k:=k-1) oO (by rw[a4];exact h);rw[M,J] at e;refine zkk (D (zc λ_ z=>CW.block (CW.block (zc λ_ y=>?_))));refine CW.jQ dZ oR λb7 q i=>?_;have d:=d.ta i;refine ym rfl (ym rfl ?_);refine WS.ev (Ev.ixR ((k-1)) rfl rfl (g.q8 d) oO oO oT) rfl ?_;refine WS.ev (Ev.load rfl rfl ((g.q8 d).u32 oF)) rfl ?_;have c4:=l.getD ((k-1));refine ym rfl (ym rfl ?_);refine WS.ev (Ev.ixR ((k-1)) rfl rfl (f.q8 d) oO oO oT) rfl ?_;refine WS.ev (Ev.load rfl rfl ((f.q8 d).u32 oF)) rfl ?_;have c3:=j.getD ((k-1));refine WS.ev (Ev.lss rfl rfl) rfl ?_;refine ya rfl ?_;refine WS.nil (q _ _ ?_);refine y ?_;refine zy rfl ?_ ?_<;>intro a9<;>try simp only[qs] at a9
  ·refine Sr λ_ x=>za rfl (zz (x ?_));refine zr (zr1 rfl rfl ?_);rw[e.1 oO];exact ⟨rfl,d⟩
  refine zc λ_ t=>?_;refine CW.jQ dZ oR λb6 p i=>?_;have d:=d.ta i;refine ym rfl (ym rfl ?_);refine WS.ev (Ev.ixR ((k-1)) rfl rfl (g.q8 d) oO oO oT) rfl ?_;refine WS.ev (Ev.load rfl rfl ((g.q8 d).u32 oF)) rfl ?_;have b9:=l.getD ((k-1));refine ym rfl (ym rfl ?_);refine WS.ev (Ev.ixR ((k-1)) rfl rfl (f.q8 d) oO oO oT) rfl ?_;refine WS.ev (Ev.load rfl rfl ((f.q8 d).u32 oF)) rfl ?_;have b8:=j.getD ((k-1));refine WS.ev (Ev.gtr rfl rfl) rfl ?_;refine ya rfl ?_;refine WS.nil (p _ _ ?_);refine t ?_;refine zy rfl ?_ ?_<;>intro a8<;>try simp only[qs] at a8
  ·refine Sr λ_ s=>za rfl (zz (s ?_));refine zr (zr1 rfl rfl ?_);rw[e.2.1 oO];exact ⟨rfl,d⟩
  refine zkk (z (zS λ_ o=>zm rfl ?_))
  first|refine WL.ev (Ev.dX rfl rfl oO) rfl ?_|refine WL.ev (Ev.sub rfl rfl) rfl ?_
  refine za rfl (zz (o ?_));refine ⟨rfl,k-1,?_,?_,?_⟩
  ·exact SLp
  ·exact ⟨by omega,e.2.2 oO,d⟩
  omega
 refine CW.exit ?_;refine G (Sr λ_ r=>za rfl (zz (r ?_)));refine zr (zr1 rfl rfl ?_);have a5:k=0:=by omega
 subst a5;rw[List.drop_zero,List.drop_zero] at h;rw[<- M,<- J,h,dej];exact ⟨rfl,d⟩
theorem Sub_spec(I H:Value)(i h:List Nat)(w:World)(U:NU w I i)(T:NU w H h):Ret Tryz.prog 170 [I,H] w λu w'=>(((wd (val i)).length<=8192/\(wd (val h)).length<=8192/\val h<=val i/\∃ r,u = .tuple [r,.int .i64 0].toArray/\NU w' r (wd (val i-val h)))\/(¬((wd (val i)).length<=8192/\(wd (val h)).length<=8192)/\u = .tuple [.slice none 0 0,.int .i64 2].toArray)\/(((wd (val i)).length<=8192/\(wd (val h)).length<=8192)/\val i<val h/\u = .tuple [.slice none 0 0,.int .i64 20].toArray))/\Chg [] w w':=by
 have a:=crf w;refine zE2 Tryz.func170 rfl ?_;refine Sr λ_ D=>za rfl (za rfl (zz (D (Sr λ_ m=>zm rfl (zm rfl ?_)))));refine WL.call hasF209 rfl rfl (cxx _ _ _ _ _ U T) λv M d=>?_;obtain ⟨d,rfl⟩:=d;rcases d with ⟨e,x,y,rfl,f,j⟩|⟨O,rfl⟩
 ·have Q:=bZ (NU.hw f);refine zm rfl (zx rfl rfl (zx rfl rfl (zx rfl rfl (za rfl (za rfl (za rfl (zz (m (zc λ_ C=>CW.block (Sr λ_ B=>zm rfl (zN rfl rfl (za rfl (zz (B ?_))))))))))))));refine CW.mQ rfl ?_;refine Sr λ_ A=>zm rfl (zm rfl ?_);refine WL.call hasF169 rfl rfl (dyq _ _ _ _ _ f j) λv Y d=>?_;obtain ⟨rfl,g⟩:=d;have a:=a.trans g;have f:=f.q8 g;have j:=j.q8 g;rw[g7,g7];refine zL rfl rfl (za rfl (zz (A ?_)));refine zy rfl ?_ ?_<;>intro b<;>try simp only[qs] at b
  ·have k:val i<val h:=Nat.lt_of_not_le λl=>by unfold sgn at b;split at b<;>(try split at b)<;>omega
   refine Sr λ_ s=>za rfl (za rfl (zz (s ?_)));refine zr (zr2 rfl rfl rfl ?_);exact ⟨.inr (.inr ⟨e,k,rfl⟩),a⟩
  have l:val h<=val i:=Nat.le_of_not_lt λk=>by unfold sgn at b;rw[if_pos k] at b;omega
  refine zkk (C (Sr λ_ p=>zm rfl (zm rfl ?_)));refine WL.call hasF230 rfl rfl (less_spec _ _ _ _ _ f j (by rw[g7,g7];exact l)) λv X d=>?_;obtain ⟨L,G,t,z⟩:=d;have a:=a.trans z;rw[g7,g7] at t;refine WL.call hasF210 rfl rfl (b8x _ _ _ G) λv V d=>?_;obtain ⟨d,rfl⟩:=d;rw[t] at d;obtain ⟨R,r,rfl,F⟩:=d.resolve_right (λq=>by have:=q.1;have:=uZ (Nat.sub_le (val i) (val h));omega);refine zx rfl rfl (zx rfl rfl (za rfl (za rfl (zz (p ?_)))));refine zr (zr2 rfl rfl rfl ?_);exact ⟨.inl ⟨e.1,e.2,l,r,rfl,F⟩,a⟩
 refine zm rfl (zx rfl rfl (zx rfl rfl (zx rfl rfl (za rfl (za rfl (za rfl (zz (m (zc λ_ J=>CW.block (Sr λ_ o=>zm rfl (zN rfl rfl (za rfl (zz (o ?_))))))))))))));refine CW.nJ rfl ?_;refine Sr λ_ n=>zm rfl (za rfl (za rfl (zz (n ?_))));refine zr (zr2 rfl rfl rfl ?_);exact ⟨.inr (.inl ⟨by omega,rfl⟩),Chg.refl _ _⟩
structure KU(l:List Nat)(s:Nat)(w:World)(b:Nat)(g:Nat×List Nat)(wr:World):Prop where
  a:UpI l s g.1 g.2
  ob:OB wr b 162 g.2
  chg:Chg [] w wr
structure KD(l:List Nat)(s:Nat)(w:World)(b:Nat)(g:Nat×List Nat)(wr:World):Prop where
  a:cdx l s g.1 g.2
  ob:OB wr b 162 g.2
  chg:Chg [] w wr
theorem up_spec(v:Value)(l:List Nat)(s:Nat)(w:World)(h:NU w v l)(hs:s<32)(a1:l.length<70368744177664):Ret Tryz.prog 228 [v,.int .i64 (s:Int)] w λu w'=>∃ L,NU w' u L/\L.length=l.length+1/\val L=val l*2^s/\Chg [] w w':=by
 obtain ⟨⟨al,cl,rfl,Q,z⟩,D,a2⟩:=h;have d:=crf w;refine zE2 Tryz.func228 rfl ?_;refine Sr λ_ M=>za rfl (zz (M (Sr λ_ J=>zm rfl (zn rfl ?_))));(first|refine zi rfl rfl ?_|refine zo rfl rfl ?_);refine WL.bcq (((l).length+1)) (((l).length+1)) rfl rfl oO oO oO oO oO rfl λF U a k j=>?_;have m:=Nat.le_trans d.size j;have d:=d.ta k;refine za rfl (zz (J (zc λ_ I=>Sr λ_ H=>zm rfl (zn rfl (zm rfl (zz (H (CW.block ?_))))))));refine CW.loop (S:=λg:Nat×List Nat=>[(1,.int .i64 (s:Int)),(5,.slice (some ⟨F,0,none⟩) (l.length+1) (l.length+1)),(13,.slice al l.length cl),(14,.int .i64 (l.length:Int)),(15,.int .i64 (g.1:Int))]) (Inv:=KU l s w F) (mu:=λg=>l.length-g.1) ((0,List.replicate (l.length+1) 0)) ?_ ?_ ?_
 ·exact ⟨UpI.zero l s,a,d⟩
 ·exact SLp
 rintro ⟨i,L⟩ wr ⟨e,a,d⟩;dsimp only at e a d;have a3:=e.le;have a4:=e.len;have T:=e.w;refine Sr λ_ G=>zL rfl rfl (zz (G (zc λ_ y=>?_)));refine zy rfl ?_ ?_<;>intro R<;>try simp only[qs] at R
 ·have O:=e.step hs D oO;refine zkk (y (zc λ_ x=>CW.block (Sr λ_ t=>zm rfl ?_)));refine WL.ev (Ev.ixR (i) rfl rfl (z.q8 d) oO oO oT) rfl ?_
  refine WL.ev (Ev.load rfl rfl ((z.q8 d).u32 oF)) rfl ?_;have X:=D.getD (i);refine za rfl (za rfl (zz (t (Sr λ_ r=>zm rfl ?_))));refine WL.ev (Ev.eZ rfl rfl (jX oO)) rfl ?_;refine zm rfl ?_;refine WL.ev (Ev.aqx rfl rfl) rfl ?_;refine za rfl (zz (r (Sr λ_ q=>zm rfl (zm rfl ?_))));refine WL.ev (Ev.ixB (i) rfl rfl oO oO) rfl ?_;refine WL.ev (Ev.load rfl rfl (a.u32 oF)) rfl ?_;have V:=T.getD (i);refine zm rfl ?_;refine WL.ev (Ev.tJ rfl rfl) rfl ?_;refine WL.ev (Ev.orU rfl rfl rfl (by simp only[IntKind.bits];omega) (by simp only[IntKind.bits];omega)) rfl ?_;refine WL.ev (Ev.ixB (i) rfl rfl oO oO) rfl ?_;refine WL.tQ rfl rfl a oF λZ f C=>?_;have d:=d.s1 C;have a:=f;refine zz (q ?_);refine zR λ_ o=>?_;refine zm rfl (zm rfl ?_);(first|refine zi rfl rfl ?_|refine zo rfl rfl ?_);refine zm rfl ?_;refine WL.ev (Ev.avx (b:=32) rfl rfl (by simp only[IntKind.bits];omega)) rfl ?_;refine WL.ev (Ev.tJ rfl rfl) rfl ?_;refine WL.ev (Ev.ixB ((i+1)) rfl rfl oO oO) rfl ?_;refine WL.tQ rfl rfl a oF λY f B=>?_;have d:=d.s1 B;have a:=f;refine WL.nil (o _ _ _ (x ?_));refine zS λ_ n=>?_;(first|refine zi rfl rfl ?_|refine zo rfl rfl ?_);refine zm rfl (zz (n ?_));refine ⟨rfl,(i+1,(L.set i (L.getD i 0||| (l.getD i 0*2^s%18446744073709551616%4294967296))).set (i+1) (l.getD i 0*2^s%18446744073709551616/2^32%4294967296)),?_,?_,?_⟩
  ·exact SLp
  ·exact ⟨O.2,a,d⟩
  show l.length-(i+1)<l.length-i;omega
 refine CW.exit ?_;refine I (Sr λ_ p=>zm rfl (za rfl (zz (p ?_))));refine zr (zr1 rfl rfl ?_);have A:i=l.length:=by omega
 subst A;exact ⟨L,NU.nX a e.w oO oO (Nat.le_refl _),e.len,e.done,d⟩
theorem down_spec(v:Value)(l:List Nat)(s:Nat)(w:World)(h:NU w v l)(hs:s<32):Ret Tryz.prog 227 [v,.int .i64 (s:Int)] w λu w'=>∃ L,NU w' u L/\val L=val l/2^s/\Chg [] w w':=by
 obtain ⟨⟨al,cl,rfl,Y,k⟩,j,b0⟩:=h;have a:=crf w;refine zE2 Tryz.func227 rfl ?_;refine Sr λ_ U=>za rfl (zz (U (Sr λ_ T=>zm rfl (zn rfl ?_))));refine WL.bcq ((l).length) ((l).length) rfl rfl oO oO oO oO oO rfl λM a3 d t o=>?_;have x:=Nat.le_trans a.size o;have a:=a.ta t;refine za rfl (zz (T (zc λ_ R=>Sr λ_ Q=>zm rfl (zn rfl (zm rfl (zz (Q (CW.block ?_))))))));refine CW.loop (S:=λg:Nat×List Nat=>[(0,.slice al l.length cl),(1,.int .i64 (s:Int)),(5,.slice (some ⟨M,0,none⟩) l.length l.length),(12,.slice al l.length cl),(13,.int .i64 (l.length:Int)),(14,.int .i64 (g.1:Int))]) (Inv:=KD l s w M) (mu:=λg=>l.length-g.1) ((0,List.replicate l.length 0)) ?_ ?_ ?_
 ·exact ⟨cdx.zero l _ s oS (oJ _),d,a⟩
 ·exact SLp
 rintro ⟨i,L⟩ wr ⟨e,d,a⟩;dsimp only at e d a;have b1:=e.le;have b3:=e.len;have b2:=e.w;refine Sr λ_ O=>zL rfl rfl (zz (O (zc λ_ I=>?_)));refine zy rfl ?_ ?_<;>intro a0<;>try simp only[qs] at a0
 ·refine zkk (I (zc λ_ n=>CW.block (Sr λ_ H=>zm rfl ?_)));refine WL.ev (Ev.ixR (i) rfl rfl (k.q8 a) oO oO oT) rfl ?_
  refine WL.ev (Ev.load rfl rfl ((k.q8 a).u32 oF)) rfl ?_;have a5:=j.getD (i);refine za rfl (za rfl (zz (H (Sr λ_ G=>zm rfl ?_))));refine WL.ev (Ev.eZ rfl rfl (jX oO)) rfl ?_;refine za rfl (zz (G (zc λ_ m=>Sr λ_ F=>zm rfl ?_)));(first|refine zi rfl rfl ?_|refine zo rfl rfl ?_);refine zm rfl (zn rfl (zL rfl rfl (zz (F ?_))));refine zy rfl ?_ ?_<;>intro Z<;>try simp only[qs] at Z
  ·refine zR λ_ C=>?_
   refine zm rfl (zm rfl (zm rfl ?_));(first|refine zi rfl rfl ?_|refine zo rfl rfl ?_);refine WL.ev (Ev.ixR ((i+1)) rfl rfl (k.q8 a) oO oO oT) rfl ?_;refine WL.ev (Ev.load rfl rfl ((k.q8 a).u32 oF)) rfl ?_;have a4:=j.getD ((i+1));refine WL.ev (Ev.eZ rfl rfl (jX oO)) rfl ?_;refine WL.ev (Ev.aqx (b:=32) rfl rfl) rfl ?_;refine WL.ev (Ev.orU rfl rfl rfl (by simp only[IntKind.bits];omega) (by simp only[IntKind.bits];omega)) rfl ?_;rw[Nat.mod_eq_of_lt (show l.getD (i+1) 0*2^32<18446744073709551616 by omega),agj (show l.getD i 0<2^32 by omega),show l.getD (i+1) 0*2^32=l.getD (i+1) 0*4294967296 from rfl];refine za rfl ?_;refine WL.nil (C _ _ _ (m ?_));refine zR λ_ B=>?_;refine zm rfl (zm rfl (zm rfl (zm rfl ?_)));have X:(l.getD i 0+l.getD (i+1) 0*4294967296)/2^s<=l.getD i 0+l.getD (i+1) 0*4294967296:=Nat.div_le_self _ _;have V:=j.getD (i+1);refine WL.ev (Ev.avx rfl rfl (by simp only[IntKind.bits];omega)) rfl ?_;refine WL.ev (Ev.tJ rfl rfl) rfl ?_;refine WL.ev (Ev.ixB (i) rfl rfl oO oO) rfl ?_;refine WL.tQ rfl rfl d oF λa2 f r=>?_;have a:=a.s1 r;have d:=f;refine WL.nil (B _ _ _ (n ?_));refine zS λ_ A=>?_;(first|refine zi rfl rfl ?_|refine zo rfl rfl ?_);refine zm rfl (zz (A ?_));refine ⟨rfl,(i+1,L.set i ((l.getD i 0+l.getD (i+1) 0*4294967296)/2^s%4294967296)),?_,?_,?_⟩
   ·exact SLp
   ·exact ⟨e.step hs j oO rfl,d,a⟩
   show l.length-(i+1)<l.length-i;omega
  have a9:l.getD (i+1) 0=0:=aaj oO;have e0:(l.getD i 0)=l.getD i 0+l.getD (i+1) 0*4294967296:=by omega
  refine zkk (m ?_);refine zR λ_ z=>?_;refine zm rfl (zm rfl (zm rfl ?_));rw[show (Value.int IntKind.u64 ((l.getD i 0:Nat):Int))=Value.int IntKind.u64 ((l.getD i 0+l.getD (i+1) 0*4294967296:Nat):Int) from congrArg (λq:Nat=>Value.int IntKind.u64 (q:Int)) e0];refine zm rfl ?_;have X:(l.getD i 0+l.getD (i+1) 0*4294967296)/2^s<=l.getD i 0+l.getD (i+1) 0*4294967296:=Nat.div_le_self _ _;have V:=j.getD (i+1);refine WL.ev (Ev.avx rfl rfl (by simp only[IntKind.bits];omega)) rfl ?_;refine WL.ev (Ev.tJ rfl rfl) rfl ?_;refine WL.ev (Ev.ixB (i) rfl rfl oO oO) rfl ?_;refine WL.tQ rfl rfl d oF λa1 f p=>?_;have a:=a.s1 p;have d:=f;refine WL.nil (z _ _ _ (n ?_));refine zS λ_ y=>?_;(first|refine zi rfl rfl ?_|refine zo rfl rfl ?_);refine zm rfl (zz (y ?_));refine ⟨rfl,(i+1,L.set i ((l.getD i 0+l.getD (i+1) 0*4294967296)/2^s%4294967296)),?_,?_,?_⟩
  ·exact SLp
  ·exact ⟨e.step hs j oO rfl,d,a⟩
  show l.length-(i+1)<l.length-i;omega
 refine CW.exit ?_;refine R (Sr λ_ D=>zm rfl (za rfl (zz (D ?_))));refine zr (zr1 rfl rfl ?_);have J:i=l.length:=by omega
 subst J;exact ⟨L,NU.nX d e.w oO oO (Nat.le_refl _),e.done j,a⟩
structure KM(la lb:List Nat)(w:World)(b:Nat)(g:Nat×List Nat)(wr:World):Prop where
  a:dxj la lb g.1 g.2
  ob:OB wr b 162 g.2
  chg:Chg [] w wr
structure KN(x:Nat)(lb:List Nat)(i:Nat)(L0:List Nat)(w:World)(b:Nat)(g:Nat×List Nat×Nat)(wr:World):Prop where
  a:cpj x lb i L0 g.1 g.2.1 g.2.2
  ob:OB wr b 162 g.2.1
  chg:Chg [] w wr
theorem times_spec(va vb:Value)(f e:List Nat)(w:World)(ha:NU w va f)(hb:NU w vb e)(c9:f.length+e.length<=70368744177664):Ret Tryz.prog 211 [va,vb] w λu w'=>∃ L,NU w' u L/\L.length=f.length+e.length/\val L=val f*val e/\Chg [] w w':=by
 obtain ⟨⟨a3,a2,rfl,a5,q⟩,m,c5⟩:=ha;obtain ⟨⟨z,y,rfl,a4,p⟩,n,c4⟩:=hb;have d:=crf w;refine zE2 Tryz.func211 rfl ?_;refine Sr λ_ b0=>za rfl (zz (b0 (Sr λ_ a9=>zm rfl (zn rfl (zm rfl (zn rfl ?_))))));(first|refine zi rfl rfl ?_|refine zo rfl rfl ?_);refine WL.bcq (((f).length+(e).length)) (((f).length+(e).length)) rfl rfl oO oO oO oO oO rfl λo b6 a v r=>?_;have A:=Nat.le_trans d.size r;have d:=d.ta v;refine za rfl (zz (a9 (zc λ_ a8=>Sr λ_ a7=>zm rfl (zn rfl (zm rfl (zz (a7 (CW.block ?_))))))));refine CW.loop (S:=λg:Nat×List Nat=>[(1,.slice z e.length y),(5,.slice (some ⟨o,0,none⟩) (f.length+e.length) (f.length+e.length)),(18,.slice a3 f.length a2),(19,.int .i64 (f.length:Int)),(20,.int .i64 (g.1:Int))]) (Inv:=KM f e w o) (mu:=λg=>f.length-g.1) ((0,List.replicate (f.length+e.length) 0)) ?_ ?_ ?_
 ·exact ⟨dxj.zero f e,a,d⟩
 ·exact SLp
 rintro ⟨i,L0⟩ wr ⟨k,a,d⟩;dsimp only at k a d;have d1:=k.le;have d4:=k.len;refine Sr λ_ a6=>zL rfl rfl (zz (a6 (zc λ_ X=>?_)));refine zy rfl ?_ ?_<;>intro b2<;>try simp only[qs] at b2
 ·refine zkk (X (zc λ_ V=>CW.block (Sr λ_ U=>zm rfl ?_)));refine WL.ev (Ev.ixR (i) rfl rfl (q.q8 d) oO oO oT) rfl ?_
  refine WL.ev (Ev.load rfl rfl ((q.q8 d).u32 oF)) rfl ?_;have c3:=m.getD (i);refine za rfl (za rfl (zz (U (Sr λ_ T=>za rfl (zz (T (zc λ_ R=>Sr λ_ Q=>zm rfl (zn rfl (zm rfl (zz (Q (CW.block ?_))))))))))));refine CW.loop (S:=λg:Nat×List Nat×Nat=>[(1,.slice z e.length y),(5,.slice (some ⟨o,0,none⟩) (f.length+e.length) (f.length+e.length)),(6,.int .i64 (i:Int)),(7,.int .u32 ((f.getD i 0:Nat):Int)),(8,.int .u64 (g.2.2:Int)),(18,.slice a3 f.length a2),(19,.int .i64 (f.length:Int)),(20,.int .i64 (i:Int)),(25,.slice z e.length y),(26,.int .i64 (e.length:Int)),(27,.int .i64 (g.1:Int))]) (Inv:=KN (f.getD i 0) e i L0 w o) (mu:=λg=>e.length-g.1) ((0,L0,0)) ?_ ?_ ?_
  ·exact ⟨cpj.zero k.w,a,d⟩
  ·exact SLp
  rintro ⟨j,L,c⟩ c7 ⟨x,a,d⟩;dsimp only at x a d;have d0:=x.le;have c6:=x.len;have a1:=x.w;have a0:=x.c1;refine Sr λ_ O=>zL rfl rfl (zz (O (zc λ_ M=>?_)));refine zy rfl ?_ ?_<;>intro b1<;>try simp only[qs] at b1
  ·have l:=cpj.fits (m.getD i) (n.getD j) (a1.getD (i+j)) a0
   have c8:=m.getD i;refine zkk (M (zc λ_ J=>CW.block (Sr λ_ I=>zm rfl ?_)));refine WL.ev (Ev.ixR (j) rfl rfl (p.q8 d) oO oO oT) rfl ?_;refine WL.ev (Ev.load rfl rfl ((p.q8 d).u32 oF)) rfl ?_;have c2:=n.getD (j);refine za rfl (za rfl (zz (I (Sr λ_ H=>zm rfl ?_))));refine WL.ev (Ev.eZ rfl rfl (jX oO)) rfl ?_;refine zm rfl ?_;refine WL.ev (Ev.eZ rfl rfl (jX oO)) rfl ?_;refine WL.ev (Ev.mul64In rfl rfl l.2.1) rfl ?_;refine zm rfl (zm rfl (zm rfl ?_));(first|refine zi rfl rfl ?_|refine zo rfl rfl ?_);refine WL.ev (Ev.ixB ((i+j)) rfl rfl oO oO) rfl ?_;refine WL.ev (Ev.load rfl rfl (a.u32 oF)) rfl ?_;have b9:=a1.getD ((i+j));refine WL.ev (Ev.eZ rfl rfl (jX oO)) rfl ?_;refine WL.ev (Ev.iJ rfl rfl l.2.2) rfl ?_;refine zm rfl ?_;refine WL.ev (Ev.iJ rfl rfl l.1) rfl ?_;refine za rfl (zz (H ?_));refine zR λ_ F=>?_;refine zm rfl (zm rfl (zm rfl ?_));(first|refine zi rfl rfl ?_|refine zo rfl rfl ?_);refine zm rfl ?_;refine WL.ev (Ev.tJ rfl rfl) rfl ?_;refine zm rfl ?_;refine WL.ev (Ev.avx (b:=32) rfl rfl (by simp only[IntKind.bits];exact l.1)) rfl ?_;refine WL.ev (Ev.ixB ((i+j)) rfl rfl oO oO) rfl ?_;refine WL.tQ rfl rfl a oF λb5 h t=>?_;have d:=d.s1 t;have a:=h;refine za rfl ?_;refine WL.nil (F _ _ _ (J ?_));refine zS λ_ D=>?_;(first|refine zi rfl rfl ?_|refine zo rfl rfl ?_);refine zm rfl (zz (D ?_));refine ⟨rfl,(j+1,L.set (i+j) ((f.getD i 0*e.getD j 0+L.getD (i+j) 0+c)%4294967296),(f.getD i 0*e.getD j 0+L.getD (i+j) 0+c)/4294967296),?_,?_,?_⟩
   ·exact SLp
   ·exact ⟨x.step (m.getD i) n oO oO,a,d⟩
   show e.length-(j+1)<e.length-j;omega
  have Y:j=e.length:=by omega
  subst Y;refine CW.exit ?_;refine R ?_;refine zR λ_ C=>?_;refine zm rfl (zm rfl (zm rfl (zn rfl ?_)));(first|refine zi rfl rfl ?_|refine zo rfl rfl ?_);refine zm rfl ?_;refine WL.ev (Ev.tJ rfl rfl) rfl ?_;rw[Nat.mod_eq_of_lt a0];refine WL.ev (Ev.ixB ((i+(e).length)) rfl rfl oO oO) rfl ?_;refine WL.tQ rfl rfl a oF λb4 h s=>?_;have d:=d.s1 s;have a:=h;refine WL.nil (C _ _ _ (V ?_));refine zS λ_ B=>?_;(first|refine zi rfl rfl ?_|refine zo rfl rfl ?_);refine zm rfl (zz (B ?_));refine ⟨rfl,(i+1,L.set (i+e.length) c),?_,?_,?_⟩
  ·exact SLp
  ·exact ⟨k.step oO x,a,d⟩
  show f.length-(i+1)<f.length-i;omega
 refine CW.exit ?_;refine a8 (Sr λ_ G=>zm rfl (za rfl (zz (G ?_))));refine zr (zr1 rfl rfl ?_);have Z:i=f.length:=by omega
 subst Z;exact ⟨L0,NU.nX a k.w oO oO (Nat.le_refl _),by omega,k.done,d⟩
theorem Mul_spec(B A:Value)(f e:List Nat)(w:World)(I:NU w B f)(H:NU w A e):Ret Tryz.prog 136 [B,A] w λu w'=>(((wd (val f)).length<=8192/\(wd (val e)).length<=8192/\(wd (val f*val e)).length<=8192/\∃ r,u = .tuple [r,.int .i64 0].toArray/\NU w' r (wd (val f*val e)))\/(¬((wd (val f)).length<=8192/\(wd (val e)).length<=8192/\(wd (val f*val e)).length<=8192)/\u = .tuple [.slice none 0 0,.int .i64 2].toArray))/\Chg [] w w':=by
 have b:=crf w;refine zE2 Tryz.func136 rfl ?_;refine Sr λ_ p=>za rfl (za rfl (zz (p (Sr λ_ h=>zm rfl (zm rfl ?_)))));refine WL.call hasF209 rfl rfl (cxx _ _ _ _ _ I H) λv F a=>?_;obtain ⟨a,rfl⟩:=a;rcases a with ⟨d,x,y,rfl,s,q⟩|⟨G,rfl⟩
 ·refine zm rfl (zx rfl rfl (zx rfl rfl (zx rfl rfl (za rfl (za rfl (za rfl (zz (h (zc λ_ o=>Sr λ_ n=>zm rfl (zN rfl rfl (zz (n ?_))))))))))));refine CW.mQ rfl ?_;refine zkk (o (Sr λ_ g=>zm rfl (zm rfl ?_)));refine WL.call hasF211 rfl rfl (times_spec _ _ _ _ _ s q oO) λv J a=>?_;obtain ⟨L,z,_,k,m⟩:=a;have b:=b.trans m;rw[g7,g7] at k;refine WL.call hasF210 rfl rfl (b8x _ _ _ z) λv D a=>?_;obtain ⟨a,rfl⟩:=a;rw[k] at a;rcases a with ⟨l,r,rfl,t⟩|⟨l,rfl⟩
  ·refine zx rfl rfl (zx rfl rfl (za rfl (za rfl (zz (g ?_)))));refine zr (zr2 rfl rfl rfl ?_);exact ⟨.inl ⟨d.1,d.2,l,r,rfl,t⟩,b⟩
  refine zx rfl rfl (zx rfl rfl (za rfl (za rfl (zz (g ?_)))));refine zr (zr2 rfl rfl rfl ?_);exact ⟨.inr ⟨by omega,rfl⟩,b⟩
 refine zm rfl (zx rfl rfl (zx rfl rfl (zx rfl rfl (za rfl (za rfl (za rfl (zz (h (zc λ_ C=>Sr λ_ j=>zm rfl (zN rfl rfl (zz (j ?_))))))))))));refine CW.nJ rfl ?_;refine Sr λ_ i=>zm rfl (za rfl (za rfl (zz (i ?_))));refine zr (zr2 rfl rfl rfl ?_);exact ⟨.inr ⟨by omega,rfl⟩,Chg.refl _ _⟩
def a9j(n:Nat)(s:Int):Nat:=if s<0 then n/2^(-s).toNat else n*2^s.toNat
theorem cej(n q:Nat)(h:0<q):a9j n (-(q:Int))=n/2^q:=by
  unfold a9j;rw[if_pos oO,show (- -(q:Int)).toNat=q by omega]
theorem aqq(n q:Nat):a9j n (q:Int)=n*2^q:=by
  unfold a9j;rw[if_neg oO,show (q:Int).toNat=q by omega]
theorem dcj{n:Nat}{s:Int}(h:n=0\/s<=-(bl n:Int)):a9j n s=0:=by
  rcases h with rfl|h
  · unfold a9j;split<;>simp
  · by_cases h0:n=0
    · subst h0;unfold a9j;split<;>simp
    · have:=blq h0
      obtain ⟨q,rfl⟩ : ∃ q:Nat,s = -(q:Int):=⟨(-s).toNat,by omega⟩
      rw[cej _ _ oO]
      exact Nat.div_eq_of_lt (vQ.1 oO)
theorem eaj{n q:Nat}: n/2^(32*(q/32))/2^(q%32)=n/2^q:=by
  rw[Nat.div_div_eq_div_mul,<- Nat.pow_add,show 32*(q/32)+q%32=q by omega]
theorem bdq{n k:Nat}: bl n<=32*k↔(wd n).length<=k:=by rw[vQ,aX]
theorem arq(v:Value)(l:List Nat)(s:Int)(w:World)(h:NU w v l)(hs : -9223372036854775808<=s/\s<=9223372036854775807):Ret Tryz.prog 167 [v,.int .i64 s] w λu w'=>((((wd (val l)).length<=8192/\(val l=0\/s<=262144-(bl (val l):Int)))/\∃ r,u = .tuple [r,.int .i64 0].toArray/\NU w' r (wd (a9j (val l) s)))\/(¬(((wd (val l)).length<=8192/\(val l=0\/s<=262144-(bl (val l):Int))))/\u = .tuple [.slice none 0 0,.int .i64 2].toArray))/\Chg [] w w':=by
 obtain ⟨A,t⟩ : ∃ A,A=wd (val l):=⟨_,rfl⟩;have g:val A=val l:=by rw[t];exact g7 _
 have a3:=bdq (n:=val l) (k:=8192);have e0:=aex (n:=val l);rw[<- t] at a3;have e1:bl (val l)<=32*A.length:=by rw[bdq,<- t];exact Nat.le_refl _
 have a:=crf w;refine zE2 Tryz.func167 rfl ?_;refine Sr λ_ b6=>za rfl (za rfl (zz (b6 (Sr λ_ b5=>zm rfl ?_))));refine WL.call hasF212 rfl rfl (a4x _ _ _ h) λv w1 d=>?_;obtain ⟨e,rfl⟩:=d;rw[<- t] at e;obtain ⟨⟨a1,c1,rfl,o,a0⟩,H,b9⟩:=e;refine za rfl (zz (b5 (zc λ_ b4=>CW.block (Sr λ_ b3=>zm rfl (zn rfl (zG rfl rfl (za rfl (zz (b3 ?_)))))))));refine zy rfl ?_ ?_<;>intro c8<;>try simp only[qs] at c8
 ·refine Sr λ_ b2=>za rfl (za rfl (zz (b2 ?_)));refine zr (zr2 rfl rfl rfl ?_);rw[<- t];exact ⟨.inr ⟨by omega,rfl⟩,a⟩
 have e:NU w (.slice a1 A.length c1) A:=NU.adx a0 H b9 rfl o;have e2:A.length=0↔val l=0:=by rw[<- g];rw[t];rw[g7];rw[List.length_eq_zero_iff,rJ]
 refine Sr λ_ x=>zm rfl (zn rfl (zq rfl rfl (zm rfl ?_)));refine zb ?_ ?_<;>intro c3<;>try simp only[qs] at c3
 ·refine zv rfl (zv rfl (zv rfl (zv rfl (zv rfl (zt rfl rfl (za rfl (zz (x ?_))))))));refine CW.nJ rfl ?_
  refine Sr λ_ X=>za rfl (za rfl (zz (X ?_)));refine zr (zr2 rfl rfl rfl ?_);have h0:val l=0:=by omega
  rw[dcj (.inl h0),fX,<- t];exact ⟨.inl ⟨⟨by omega,.inl h0⟩,_,rfl,NU.nil⟩,a⟩
 refine zw rfl (zm rfl (zw rfl (zm rfl (zw rfl ?_))));refine WL.call hasF139 rfl rfl (a4j _ _ _ e) λv w2 d=>?_;obtain ⟨rfl,rfl⟩:=d;rw[g];refine zw rfl ?_;refine WL.ev (Ev.bpx rfl oO) rfl ?_;refine zw rfl (zQ rfl rfl (ze rfl rfl (za rfl (zz (x ?_)))));refine zy rfl ?_ ?_<;>intro c7<;>try simp only[qs] at c7
 ·refine Sr λ_ V=>za rfl (za rfl (zz (V ?_)));refine zr (zr2 rfl rfl rfl ?_);rw[dcj (.inr oO),fX,<- t];exact ⟨.inl ⟨⟨by omega,.inr oO⟩,_,rfl,NU.nil⟩,a⟩
 refine Sr λ_ U=>zm rfl (zL rfl rfl (za rfl (zz (U ?_))));refine zy rfl ?_ ?_<;>intro c6<;>try simp only[qs] at c6
 ·obtain ⟨q,rfl⟩ : ∃ q:Nat,s = -(q:Int):=⟨(-s).toNat,by omega⟩
  have a6:NU w (.slice (cutAt a1 (q/32) c1 1) (A.length-q/32) (c1-q/32)) (A.drop (q/32)):=NU.adx (by rw[List.map_drop];exact a0.cut _ _ oT (by simpa using o)) (H.drop _) oT oS oO;refine Sr λ_ T=>zm rfl (zm rfl ?_);refine WL.ev (Ev.bpx rfl oO) rfl ?_;rw[Int.neg_neg];refine WL.ev (Ev.dlq (b:=32) rfl rfl oO (tX oO).2) rfl ?_;refine WL.ev (Ev.brj ((q/32)) rfl rfl oO oO) rfl ?_;refine zm rfl ?_;refine WL.ev (Ev.bpx rfl oO) rfl ?_;rw[Int.neg_neg];refine WL.ev (Ev.dhx (b:=32) rfl rfl oO) rfl ?_;refine WL.call hasF227 rfl rfl (down_spec _ _ _ _ a6 oO) λv w3 d=>?_;obtain ⟨L,I,f,a8⟩:=d;have a:=a.trans a8;rw[cij H _ oO,g,eaj] at f;refine WL.call hasF206 rfl rfl (b9x _ _ _ I) λv w4 d=>?_;obtain ⟨a4,a7⟩:=d;have a:=a.trans a7;rw[f] at a4;refine za rfl (za rfl (zz (T ?_)));refine zr (zr2 rfl rfl rfl ?_);rw[cej _ _ oO,<- t];exact ⟨.inl ⟨⟨by omega,.inr oO⟩,_,rfl,a4⟩,a⟩
 obtain ⟨q,rfl⟩ : ∃ q:Nat,s=(q:Int):=⟨s.toNat,by omega⟩;refine Sr λ_ R=>zm rfl (zm rfl ?_);refine WL.call hasF139 rfl rfl (a4j _ _ _ e) λv w5 d=>?_;obtain ⟨rfl,rfl⟩:=d;rw[g]
 first|refine WL.ev (Ev.dX rfl rfl oO) rfl ?_|refine WL.ev (Ev.sub rfl rfl) rfl ?_
 refine zG rfl rfl (za rfl (zz (R ?_)));refine zy rfl ?_ ?_<;>intro c5<;>try simp only[qs] at c5
 ·refine Sr λ_ Q=>za rfl (za rfl (zz (Q ?_)));refine zr (zr2 rfl rfl rfl ?_);rw[<- t];exact ⟨.inr ⟨by omega,rfl⟩,a⟩
 refine zkk (b4 (Sr λ_ O=>zm rfl ?_));refine WL.ev (Ev.dlq (b:=32) rfl rfl oO (tX oO).2) rfl ?_;refine zm rfl ?_;refine WL.ev (Ev.dlq (b:=32) rfl rfl oO (tX oO).2) rfl ?_;refine zm rfl (zn rfl ?_);(first|refine zi rfl rfl ?_|refine zo rfl rfl ?_);(first|refine zi rfl rfl ?_|refine zo rfl rfl ?_);refine WL.bcq ((q/32)) ((((q/32)+(A).length)+1)) rfl rfl oO oO oO oO oO rfl λb0 d2 p G C=>?_;have J:=Nat.le_trans a.size C;have a:=a.ta G;refine za rfl (zz (O (Sr λ_ M=>zm rfl (zm rfl (zm rfl ?_)))));refine WL.ev (Ev.dhx (b:=32) rfl rfl oO) rfl ?_;refine WL.call hasF228 rfl rfl (up_spec _ _ _ _ (e.q8 a) oO oO) λv w6 d=>?_;obtain ⟨L,I,d7,f,B⟩:=d;have a:=a.trans B;have p:=p.k0 B;obtain ⟨⟨a2,c2,rfl,c4,Z⟩,c9,d8⟩:=I;rw[g] at f;obtain ⟨e7,rfl⟩:=Z.some_ oT;have z:=d6j (k:=q/32) p oT oT;rw[List.length_replicate] at z;refine WL.append (m:=q/32) (mm:=L.length) (news:=L.map kZ) (by rfl) oD rfl rfl z oS (λj u hu=>by obtain ⟨e6,e3,h3⟩:=Z j u hu;cases e3;exact h3) (u32_one _) (by unfold maxLen;omega) oO rfl λd5 d4 i F b1=>?_;have D : ∀ y∈(Value.slice (some ⟨b0,0,none⟩) (q/32) (q/32+A.length+1)).ownBlock.toList,w.heap.size<=y:=λy hy=>by
  have b7:y=b0:=by simpa[Value.ownBlock] using hy
  subst b7;assumption
 have a:=a.step F (λy hy=>.inr (D y hy));rw[<- List.map_append] at i;have a5:=NU.dmj i (apq.2 ⟨(oJ _).take _,c9⟩) oT;have Y:val ((List.replicate (q/32+A.length+1) 0).take (q/32)++L)=val l*2^q:=by
  rw[List.take_replicate,show min (q/32) (q/32+A.length+1)=q/32 by omega,azq,agx,List.length_replicate,f,Nat.zero_add,Nat.mul_left_comm,<- Nat.pow_add,show 32*(q/32)+q%32=q by omega]
 refine WL.call hasF210 rfl rfl (b8x _ _ _ a5) λv w7 d=>?_;obtain ⟨d,rfl⟩:=d;rw[Y] at d;obtain ⟨d9,r,rfl,d0⟩:=d.resolve_right (λq1=>by
  have q2:=q1.1;have q3:(wd (val l*2^q)).length<=8192:=by
   refine bdq.1 ?_
   by_cases h0:val l=0
   · rw[h0];simp[bl_zero]
   rw[adj h0];omega
  omega)
 refine zx rfl rfl (zx rfl rfl (za rfl (za rfl (zz (M ?_)))));refine zr (zr2 rfl rfl rfl ?_);rw[aqq,<- t];exact ⟨.inl ⟨⟨by omega,.inr oO⟩,r,rfl,d0⟩,a⟩
def GR(w:World)(e:TypeId)(f:Nat->Value)(lo:Nat)(X:List Nat)(v:Value)(l:List Nat):Prop:=
  w.ownsRow 0 e 1 v l.length (l.map f)/\∀ b,v.ownBlock=some b->lo<=b/\b∉X
section
variable {w w':World} {e:TypeId} {f:Nat->Value} {lo:Nat} {X:List Nat} {v:Value} {l:List Nat}
theorem GR.nil:GR w e f lo X (.slice none 0 0) []:=⟨⟨rfl,.inl ⟨rfl,rfl⟩⟩,λb h=>by cases h⟩
theorem GR.lt(h:GR w e f lo X v l){b:Nat}(a:v.ownBlock=some b):b<w.heap.size:=own_lt h.1 a
theorem GR.dJ{T:List Nat}(h:GR w e f lo X v l)(a:Chg T w w')(hT : ∀ b∈T,b∈X\/b<lo\/w.heap.size<=b):GR w' e f lo X v l:=
  ⟨own_keep h.1 a λb hb hm=>by
    obtain ⟨h1,h2⟩:=h.2 b hb
    have h3:=h.lt hb
    rcases hT b hm with q|q|q
    · exact h2 q
    · omega
    · omega,h.2⟩
theorem GR.q8(h:GR w e f lo X v l)(a:Chg [] w w'):GR w' e f lo X v l:=h.dJ a oS
theorem GR.one(h:GR w e f lo X v l):v.oneCell'=true:=by
  obtain ⟨a,c,rfl⟩:=own_form h.1;rfl
theorem GR.row(h:GR w e f lo X v l): ∃ a c,v = .slice a l.length c/\l.length<=c/\RW w a (l.map f):=by
  rcases bnq h.1 with ⟨rfl,i,j⟩|⟨g,b,rfl,d,_,_⟩
  · have:l=[]:=List.length_eq_zero_iff.1 i
    subst this
    exact ⟨none,0,rfl,Nat.le_refl _,RW.nil⟩
  · exact ⟨_,b,rfl,d,RW.dmj h.1⟩
theorem GR.nu(h:GR w e kZ lo X v l)(b:W l)(a:l.length<=70368744177664):NU w v l:=NU.dmj h.1 b a
theorem GR.of_OB{b k:Nat}(h:OB w b e l)(f:k<=l.length)(d:l.length<=281474976710656)(a:lo<=b)(g:b∉X):GR w e kZ lo X (.slice (some ⟨b,0,none⟩) k l.length) (l.take k):=
  ⟨by have:=d6j h f d;rwa [show (l.take k).length=k by rw[List.length_take];omega],λb' hb=>by cases hb;exact ⟨a,g⟩⟩
theorem GR.frame{T:List Nat}{a:World}(h:GR w e f lo X v l)(i:Chg v.ownBlock.toList w w')(g:Chg T a w)(d:a.heap.size<=lo):Chg T a w':=
  g.step i λy hy=>.inr (by
    cases hv:v.ownBlock with
    | none=>rw[hv] at hy;cases hy
    | some b => rw [hv] at hy; have : y = b := by simpa using hy
                subst this;have:=(h.2 y hv).1;omega)
theorem GR.notin(h:GR w e f lo X v l){b:Nat}(a:b∈X\/b<lo):b∉v.ownBlock.toList:=λhm=>by
  cases hv:v.ownBlock with
  | none=>rw[hv] at hm;cases hm
  | some c=>
    rw[hv] at hm
    have:b=c:=by simpa using hm
    subst this
    obtain ⟨h1,h2⟩:=h.2 b hv
    rcases a with q|q
    · exact h2 q
    · omega
end
section
variable {P:Program} {n:Nat} {D:List Deferred} {s:Sl} {w:World} {ops:Array Oper} {K:KK} {rest:List Oper} {ty:TypeId} {pos:String} {af:Array Edge} {d:Nat} {x y:Operand}
theorem Ev.append00{t e f p:Nat}{l:TypeDesc}{ze:Value}{h d:Nat}{z:Value}{v:Value}{m c:Nat}{xs:List Value}[hT:aJ P t (.slice e) h d z][hE:aJ P e l f p ze]
    (k:k6 s x=some v) (j:k6 s y=some (.slice none 0 c)) (a:w.ownsRow 0 e f v m xs) :
    Ev P s (.call ⟨.builtin .append,[x,y].toArray,#[t,t]⟩) ty w v w:=λρ d' pos af g hρ=>by
  obtain ⟨i,hi,hi1,hi2,hi3⟩:=hE.inf
  have e1:=hρ x _ k
  have e2:=hρ y _ j
  have:(Builtin.append_ #[t,t] ty #[v,.slice none 0 c]).run P w = .ok v w:=by
    rcases a.2 with ⟨rfl,rfl⟩|⟨g,o,n,rfl,_,_,b,_⟩
    · simp[Builtin.append_,run_underlying hT.und,sizeOf,typeInfo,hi,Builtin.lenOf,Builtin.firstCells]
    · simp[Builtin.append_,run_underlying hT.und,sizeOf,typeInfo,hi,Builtin.lenOf,Builtin.firstCells,b,storeCells]
  simp[execOp,resolve,invoke,builtin,e1,e2,this]
theorem WL.c1j{t e Q:Nat}{de:TypeDesc}{ze:Value}{R H:Nat}{z:Value}{v:Value}{f:Nat->Value}{lo:Nat}{X:List Nat}{l news:List Nat}{a:Option Addr}{mm c:Nat}[hT:aJ P t (.slice e) R H z][hE:aJ P e de 1 Q ze]
    (A:ze.cells.size=1) (h1 : ∀ i,(f i).oneCell'=true) (J:k6 s x=some v) (I:k6 s y=some (.slice a mm c)) (o:GR w e f lo X v l) (m:mm=news.length) (M:RW w a (news.map f)) (F:lo<=w.heap.size) (Z : ∀ b∈X,b<w.heap.size)
    (g:(l.length+news.length)*Q<=140737488355328) (a0:l.length+news.length<=140737488355328) (O:Nat.blt d n=true)
    (k : ∀ v' w',GR w' e f lo X v' (l++news)->Chg v.ownBlock.toList w w'->WL P ops K rest n D ((d,v')::s) w') :
    WL P ops K (⟨some d,.call ⟨.builtin .append,[x,y].toArray,#[t,t]⟩,ty,pos,af,none⟩::rest) n D s w:=by
  cases a with
  | some ad=>
    refine WL.append (news:=news.map f) A oO J I o.1 oT (λj u B=>?_) (λu B=>?_) (by unfold maxLen;omega) (by rw[m];exact g) O λv' w' T Y V=>?_
    · obtain ⟨a3,G,h⟩:=M j u B
      cases G;exact h
    · obtain ⟨i,_,rfl⟩:=List.mem_map.1 B
      exact h1 i
    · refine k v' w' ⟨by rw[List.length_append,List.map_append,<- m];exact T,λb p=>?_⟩ Y
      rcases V with q|q
      · rw[q] at p;exact o.2 b p
      · rw[q] at p;cases p;exact ⟨F,λm=>Nat.lt_irrefl _ (Z _ m)⟩
  | none=>
    have U:news=[]:=by
      cases news with
      | nil=>rfl
      | cons u r=>obtain ⟨ad,G,_⟩:=M 0 (f u) rfl;cases G
    subst U
    have C:mm=0:=m
    subst C
    refine WL.ev (Ev.append00 J I o.1) O (k v w ?_ (Chg.refl _ _))
    rw[List.append_nil];exact o
end
def GRc(w:World)(e:TypeId)(es:Nat)(lo:Nat)(X:List Nat)(v:Value)(m:Nat)(l:List Value):Prop:=
  w.ownsRow 0 e es v m l/\∀ b,v.ownBlock=some b->lo<=b/\b∉X
end
section
open Go Sx Wd
set_option exponentiation.threshold 5000
structure cqx(l:List Nat)(q s i:Nat)(L:List Nat)(c:Nat):Prop where
  le:i<=l.length
  len:L.length=q+i
  w:W L
  cl:c<2^s
  eq:val L+2^(32*(q+i))*c=2^(32*q)*(val (l.take i)*2^s)
theorem cqx.zero(l:List Nat)(q s:Nat):cqx l q s 0 (List.replicate q 0) 0:=⟨Nat.zero_le _,by simp,oJ _,Nat.two_pow_pos _,by rw[agx];simp[val]⟩
theorem lift_or{c x s:Nat}(b:c<2^s)(a:x<4294967296)(e:s<32):c||| (x*2^s%18446744073709551616)=c+x*2^s/\c+x*2^s<4294967296*2^s/\c+x*2^s<18446744073709551616:=by
  have d:(x+1)*2^s<=4294967296*2^s:=Nat.mul_le_mul_right _ a
  have f:2^s<=2^31:=Nat.pow_le_pow_right oD oO
  rw[Nat.add_mul,Nat.one_mul] at d
  rw[Nat.mod_eq_of_lt oO,agj b]
  omega
theorem cqx.step{l L:List Nat}{q s i c t:Nat}(h:cqx l q s i L c)(k:W l)(b:i<l.length)(j:s<32)(a:t=c+l.getD i 0*2^s):cqx l q s (i+1) (L++[t%4294967296]) (t/2^32):=by
  obtain ⟨u,f,o,n,m⟩:=h
  have g:=k.getD i
  obtain ⟨_,d,_⟩:=lift_or n g j
  rw[<- a] at d
  refine ⟨b,by simp[f];omega,apq.2 ⟨o,zX.2 ⟨Nat.mod_lt _ oD,ayx⟩⟩,by rw[show (2:Nat)^32=4294967296 from rfl];exact Nat.div_lt_of_lt_mul d,?_⟩
  rw[bxj,f,anx b,show 32*(q+(i+1))=32*(q+i)+32 by omega,Nat.pow_add 2 (32*(q+i)) 32,show (2:Nat)^32=4294967296 from rfl]
  have e:=Nat.div_add_mod t 4294967296
  have r:2^(32*(q+i))*(t%4294967296)+2^(32*(q+i))*4294967296*(t/4294967296)=2^(32*(q+i))*t:=by
    rw[Nat.mul_assoc,<- Nat.mul_add];congr 1;omega
  have p:2^(32*q)*((val (l.take i)+2^(32*i)*l.getD i 0)*2^s)=2^(32*q)*(val (l.take i)*2^s)+2^(32*(q+i))*(l.getD i 0*2^s):=by
    rw[Nat.add_mul,Nat.mul_add,Nat.mul_add 32,Nat.pow_add];congr 1;ac_rfl
  rw[p,<- m,Nat.add_assoc,r,a,Nat.mul_add]
  omega
theorem cqx.done{l L:List Nat}{q s c:Nat}(h:cqx l q s l.length L c)(e:s<32):val (L++[c%4294967296])=val l*2^(32*q+s)/\W (L++[c%4294967296]):=by
  obtain ⟨i,d,b,g,a⟩:=h
  have f:2^s<=2^31:=Nat.pow_le_pow_right oD oO
  rw[Nat.mod_eq_of_lt oO]
  refine ⟨?_,apq.2 ⟨b,zX.2 ⟨by omega,ayx⟩⟩⟩
  rw[List.take_length] at a
  rw[bxj,d,a,Nat.pow_add]
  ac_rfl
structure K0r(l:List Nat)(w:World)(k:Nat)(wr:World):Prop where
  le:k<=l.length
  vl:val (l.take k)=val l
  eq:w=wr
theorem a6j(v:Value)(l:List Nat)(w:World)(h:NU w v l):Ret Tryz.prog 266 [v] w λu w'=>NU w u (wd (val l))/\w=w':=by
 obtain ⟨⟨y,x,rfl,r,a⟩,d,p⟩:=h;have g:=crf w;refine zE1 Tryz.func266 rfl ?_;refine Sr λ_ o=>za rfl (zz (o (zc λ_ n=>CW.block ?_)));refine CW.loop (S:=λk:Nat=>[(0,.slice y k x)]) (Inv:=K0r l w) (mu:=λk=>k) (l.length) ?_ ?_ ?_
 ·exact ⟨Nat.le_refl _,by rw[List.take_length],rfl⟩
 ·exact SLp
 rintro k _ ⟨b,f,rfl⟩;refine zc λ_ m=>?_;refine CW.oX 14 (decide (0<k/\l.getD (k-1) 0=0)) ?_ ?_
 ·refine zS λ_ e=>zm rfl (zn rfl (zG rfl rfl (zm rfl ?_)));refine zb ?_ ?_<;>intro q<;>try simp only[qs] at q
  ·refine zw rfl (zm rfl (zw rfl (zm rfl (zw rfl (zn rfl (zw rfl ?_))))))
   first|refine WL.ev (Ev.dX rfl rfl oO) rfl ?_|refine WL.ev (Ev.sub rfl rfl) rfl ?_
   refine zw rfl ?_;refine WL.ev (Ev.ixR ((k-1)) rfl rfl (a.q8 g) oO oO oT) rfl ?_;refine zw rfl ?_;refine WL.ev (Ev.load rfl rfl ((a.q8 g).u32 oF)) rfl ?_;have t:=d.getD ((k-1));refine zw rfl (zq rfl rfl (zt rfl rfl (zz (e ?_))));refine ⟨rfl,rfl,j0.g8 rfl ?_ ?_⟩
   ·first|(simp;omega)|(refine decide_eq_decide.2 ?_;omega)
   exact SMg
  refine zv rfl (zv rfl (zv rfl (zv rfl (zv rfl (zv rfl (zv rfl (ze rfl rfl (zz (e ?_)))))))));refine ⟨rfl,rfl,j0.g8 rfl ?_ ?_⟩
  ·first|(simp;omega)|(refine decide_eq_decide.2 ?_;omega)
  exact SMg
 refine zy rfl ?_ ?_<;>intro s<;>try simp only[qs] at s
 ·refine zkk (m (CW.block (zS λ_ i=>zm rfl (zm rfl (zn rfl ?_)))))
  first|refine WL.ev (Ev.dX rfl rfl oO) rfl ?_|refine WL.ev (Ev.sub rfl rfl) rfl ?_
  refine WL.ev (Ev.c6j ((k-1)) rfl rfl oO oO) rfl ?_;refine za rfl (zz (i ?_));refine ⟨rfl,k-1,?_,?_,?_⟩
  ·exact SLp
  ·exact ⟨by omega,by rw[b4j b oO oO];exact f,rfl⟩
  omega
 refine CW.exit ?_;refine n (Sr λ_ j=>zm rfl (za rfl (zz (j ?_))));refine zr (zr1 rfl rfl ?_);rw[cut_wd d b f oO];exact ⟨NU.part a d p b oO,rfl⟩
def cmpS(a b:Int):Int:=if a<b then -1 else if b<a then 1 else 0
theorem d6x(a b:Int)(w:World):Ret Tryz.prog 278 [.int .i64 a,.int .i64 b] w λu w'=>u = .int .i64 (cmpS a b)/\w=w':=by
 refine zE2 Tryz.func278 rfl ?_;refine Sr λ_ m=>za rfl (zz (m (zc λ_ l=>CW.block (Sr λ_ k=>zm rfl (zm rfl (zL rfl rfl (za rfl (zz (k ?_)))))))));refine zy rfl ?_ ?_<;>intro e<;>try simp only[qs] at e
 ·have h:a<b:=e
  refine Sr λ_ j=>za rfl (zz (j ?_));refine zr (zr1 rfl rfl ?_);exact ⟨by unfold cmpS;rw[if_pos h],rfl⟩
 have h : ¬a<b:=by have:=e;omega
 refine Sr λ_ i=>zm rfl (zm rfl (zG rfl rfl (za rfl (zz (i ?_)))));refine zy rfl ?_ ?_<;>intro d<;>try simp only[qs] at d
 ·have n:b<a:=d
  refine Sr λ_ g=>za rfl (zz (g ?_));refine zr (zr1 rfl rfl ?_);exact ⟨by unfold cmpS;rw[if_neg h,if_pos n],rfl⟩
 have n : ¬b<a:=by have:=d;omega
 refine zkk (l (Sr λ_ f=>za rfl (zz (f ?_))));refine zr (zr1 rfl rfl ?_);exact ⟨by unfold cmpS;rw[if_neg h,if_neg n],rfl⟩
structure KLi(l:List Nat)(q s:Nat)(w0:World)(g:Nat×List Nat×Nat×Value)(w:World):Prop where
  m:cqx l q s g.1 g.2.1 g.2.2.1
  gr:GR w 162 kZ w0.heap.size [] g.2.2.2 g.2.1
  ch:Chg [] w0 w
theorem b1q(v:Value)(l:List Nat)(n:Nat)(w:World)(h:NU w v l)(hn:n<1099511627776)(d0:l.length<=1099511627776):Ret Tryz.prog 271 [v,.int .i64 (n:Int)] w λu w'=>NU w' u (wd (val l*2^n))/\Chg [] w w':=by
 obtain ⟨⟨al,cl,rfl,b7,U⟩,B,d1⟩:=h;have a:=crf w;have j:n%32<32:=Nat.mod_lt _ oD;have hp:2^(n%32)<=2^31:=Nat.pow_le_pow_right oD oO;refine zE2 Tryz.func271 rfl ?_;refine Sr λ_ b1=>za rfl (zz (b1 (Sr λ_ b0=>zm rfl ?_)));refine WL.ev (Ev.b1x (b:=32) rfl rfl oO (by simp only[IntKind.max,IntKind.signed,IntKind.bits];omega) oO) rfl ?_;rw[show (n:Int)/32=((n/32:Nat):Int) by omega];refine zm rfl ?_;refine WL.ev (Ev.b1x (b:=32) rfl rfl oO (by simp only[IntKind.max,IntKind.signed,IntKind.bits];omega) oO) rfl ?_;rw[show (n:Int)/32=((n/32:Nat):Int) by omega];refine zm rfl (zn rfl ?_);(first|refine zi rfl rfl ?_|refine zo rfl rfl ?_);(first|refine zi rfl rfl ?_|refine zo rfl rfl ?_);refine WL.bcq (n/32) (n/32+l.length+1) rfl rfl oO oO oO oO oO rfl λc2 c3 a2 y q=>?_;have e:=Nat.le_trans a.size q;have a:=a.ta y;refine za rfl (zz (b0 (Sr λ_ a9=>za rfl (zz (a9 (zc λ_ a8=>Sr λ_ a7=>zm rfl (zn rfl (zm rfl (zz (a7 (CW.block ?_)))))))))));refine CW.loop (S:=λg:Nat×List Nat×Nat×Value=>[(0,.slice al l.length cl),(1,.int .i64 (n:Int)),(5,g.2.2.2),(6,.int .u64 (g.2.2.1:Int)),(18,.slice al l.length cl),(19,.int .i64 (l.length:Int)),(20,.int .i64 (g.1:Int))]) (Inv:=KLi l (n/32) (n%32) w) (mu:=λg=>l.length-g.1) ((0,List.replicate (n/32) 0,0,.slice (some ⟨c2,0,none⟩) (n/32) (n/32+l.length+1))) ?_ ?_ ?_
 ·have a3:=GR.of_OB (lo:=w.heap.size) (X:=[]) (k:=n/32) a2 oT oT (by first|omega|exact e|exact q) oS;rw[List.take_replicate,show min (n/32) (n/32+l.length+1)=n/32 by omega,List.length_replicate] at a3;exact ⟨cqx.zero _ _ _,a3,a⟩
 ·exact SLp
 rintro ⟨i,L,c,vo⟩ wr ⟨F,d,a⟩;dsimp only at F d a;dsimp only;have hi:=F.le;have d4:=F.len;have b6:=F.cl;have b2:=B.getD i;refine Sr λ_ T=>zL rfl rfl (zz (T (zc λ_ R=>?_)));refine zy rfl ?_ ?_<;>intro b8<;>try simp only[qs] at b8
 ·obtain ⟨b3,d3,d2⟩:=lift_or b6 b2 j
  refine zkk (R (zc λ_ Q=>CW.block (Sr λ_ O=>?_)));refine WL.ev (Ev.ixR (i) rfl rfl (U.q8 a) oO oO oT) rfl ?_;refine WL.ev (Ev.load rfl rfl ((U.q8 a).u32 oF)) rfl ?_;have c4:=B.getD (i);refine za rfl (zz (O (Sr λ_ M=>zm rfl (zm rfl ?_))));refine WL.ev (Ev.eZ rfl rfl (jX oO)) rfl ?_;refine zm rfl ?_;refine WL.ev (Ev.dhq (b:=32) rfl rfl oO oO) rfl ?_;rw[show (n:Int)%32=((n%32:Nat):Int) by omega];refine WL.ev (Ev.eZ rfl rfl (jX oO)) rfl ?_;refine WL.ev (Ev.aqx rfl rfl) rfl ?_;refine WL.ev (Ev.orU rfl rfl rfl (by simp only[IntKind.bits];omega) (by simp only[IntKind.bits];omega)) rfl ?_;rw[b3];refine za rfl (zz (M (Sr λ_ J=>zm rfl (zm rfl ?_))));refine WL.ev (Ev.tJ rfl rfl) rfl ?_;refine WL.buildSlice (m:=1) (cs:=[kZ (((c+l.getD i 0*2^(n%32))%4294967296))]) oD oD rfl oR rfl λc1 a5 p=>?_;have s:=p.chg;have x:=p.ge;have a1:OB a5 c1 _ [((c+l.getD i 0*2^(n%32))%4294967296)]:=p.at_;have D:=Nat.le_trans a.size x;have a:=a.ta s;have d:=d.q8 s;refine WL.c1j (f:=kZ) (lo:=w.heap.size) (X:=[]) (l:=L) (news:=[((c+l.getD i 0*2^(n%32))%4294967296)]) (by rfl) (λi=>rfl) rfl rfl d (by first|rfl|(simp;done)|(simp;omega)|omega) a1.row (by first|omega|exact a.size|exact Nat.le_refl _) oS (by simp only[List.length_append,List.length_cons,List.length_nil];omega) (by simp only[List.length_append,List.length_cons,List.length_nil];omega) rfl λa6 c8 Y A=>?_;have a:=GR.frame d A a (by first|omega|exact Nat.le_refl _);have d:=Y;refine za rfl (zz (J ?_));refine zR λ_ H=>?_;refine zm rfl ?_;refine WL.ev (Ev.avx (b:=32) rfl rfl (by simp only[IntKind.bits];omega)) rfl ?_;refine za rfl ?_;refine WL.nil (H _ _ _ (Q ?_));refine zS λ_ G=>?_;(first|refine zi rfl rfl ?_|refine zo rfl rfl ?_);refine zm rfl (zz (G ?_));refine ⟨rfl,(i+1,L++[(c+l.getD i 0*2^(n%32))%4294967296],(c+l.getD i 0*2^(n%32))/2^32,a6),?_,?_,?_⟩
  ·exact SLp
  ·exact ⟨F.step B oO j rfl,d,a⟩
  show l.length-(i+1)<l.length-i;omega
 have b4:i=l.length:=by omega
 subst b4;obtain ⟨Z,b5⟩:=F.done j;rw[show 32*(n/32)+n%32=n by omega] at Z;refine CW.exit ?_;refine a8 (Sr λ_ I=>zm rfl (zm rfl ?_));refine WL.ev (Ev.tJ rfl rfl) rfl ?_;refine WL.buildSlice (m:=1) (cs:=[kZ ((c%4294967296))]) oD oD rfl oR rfl λb9 a4 o=>?_;have r:=o.chg;have t:=o.ge;have a0:OB a4 b9 _ [(c%4294967296)]:=o.at_;have C:=Nat.le_trans a.size t;have a:=a.ta r;have d:=d.q8 r;refine WL.c1j (f:=kZ) (lo:=w.heap.size) (X:=[]) (l:=L) (news:=[(c%4294967296)]) (by rfl) (λi=>rfl) rfl rfl d (by first|rfl|(simp;done)|(simp;omega)|omega) a0.row (by first|omega|exact a.size|exact Nat.le_refl _) oS (by simp only[List.length_append,List.length_cons,List.length_nil];omega) (by simp only[List.length_append,List.length_cons,List.length_nil];omega) rfl λc9 c7 V z=>?_;have a:=GR.frame d z a (by first|omega|exact Nat.le_refl _);have d:=V;refine WL.call hasF266 rfl rfl (a6j _ _ _ (d.nu b5 oT)) λv w1 h'=>?_;obtain ⟨hN,rfl⟩:=h';rw[Z] at hN;refine za rfl (zz (I ?_));refine zr (zr1 rfl rfl ?_);exact ⟨hN,a⟩
end
section
open Go Sx Wd
set_option exponentiation.threshold 5000
structure KCr(A B:List Nat)(w:World)(k:Nat)(wr:World):Prop where
  le:k<=A.length
  eq:A.drop k=B.drop k
  chg:Chg [] w wr
structure KSr(X Y:List Nat)(w:World)(b:Nat)(g:Nat×List Nat×Nat)(wr:World):Prop where
  a:dwq X Y g.1 g.2.1 g.2.2
  ob:OB wr b 162 g.2.1
  chg:Chg [] w wr
theorem cmpS_nat(a b:Nat):cmpS (a:Int) (b:Int)=sgn a b:=by
  unfold cmpS sgn
  by_cases h:a<b
  · rw[if_pos h,if_pos oO]
  · rw[if_neg h,if_neg oO]
    by_cases h2:b<a
    · rw[if_pos h2,if_pos oO]
    · rw[if_neg h2,if_neg oO]
theorem cbq(va vb:Value)(m n:Nat)(w:World)(ha:NU w va (wd m))(hb:NU w vb (wd n)):Ret Tryz.prog 272 [va,vb] w λu w'=>u = .int .i64 (sgn m n)/\Chg [] w w':=by
 have r:=g7 m;have p:=g7 n;have f:=c7x (a:=m) (b:=n);obtain ⟨A,hA⟩ : ∃ A,A=wd m:=⟨_,rfl⟩;obtain ⟨B,hB⟩ : ∃ B,B=wd n:=⟨_,rfl⟩;rw[<- hA] at ha r f;rw[<- hB] at hb p f;obtain ⟨⟨a1,c1,rfl,a3,o⟩,y,b9⟩:=ha;obtain ⟨⟨a2,c2,rfl,a0,l⟩,x,b8⟩:=hb;have d:=crf w;refine zE2 Tryz.func272 rfl ?_;refine Sr λ_ X=>za rfl (zz (X (zc λ_ V=>Sr λ_ U=>zm rfl (zn rfl (zm rfl (zn rfl (zN rfl rfl (zz (U ?_)))))))));refine zy rfl ?_ ?_<;>intro a6<;>try simp only[qs] at a6
 ·refine Sr λ_ T=>zm rfl (zn rfl (zm rfl (zn rfl ?_)));refine WL.call hasF278 rfl rfl (d6x _ _ _) λv w1 h'=>?_
  obtain ⟨rfl,rfl⟩:=h';rw[cmpS_nat];refine za rfl (zz (T ?_));refine zr (zr1 rfl rfl ?_);refine ⟨?_,d⟩;have e:sgn A.length B.length=sgn m n:=by
   rcases Nat.lt_or_gt_of_ne (show A.length≠B.length by omega) with q|q
   · rw[f.1 q];unfold sgn;rw[if_pos q]
   rw[f.2 q];unfold sgn;rw[if_neg oO,if_pos q]
  rw[e]
 have O:A.length=B.length:=by omega
 refine zkk (V (zc λ_ R=>Sr λ_ Q=>zm rfl (zn rfl ?_)))
 first|refine WL.ev (Ev.dX rfl rfl oO) rfl ?_|refine WL.ev (Ev.sub rfl rfl) rfl ?_
 refine za rfl (zz (Q (CW.block ?_)));refine CW.loop (S:=λk:Nat=>[(0,.slice a1 A.length c1),(1,.slice a2 B.length c2),(5,.int .i64 ((k:Int)-1))]) (Inv:=KCr A B w) (mu:=λk=>k) (A.length) ?_ ?_ ?_
 ·exact ⟨Nat.le_refl _,by rw[List.drop_length,O,List.drop_length],d⟩
 ·exact SLp
 rintro k wr ⟨c3,s,d⟩;refine zc λ_ M=>Sr λ_ J=>zm rfl ?_;refine WL.ev (Ev.geq rfl rfl) rfl ?_;refine zz (J ?_);refine zy rfl ?_ ?_<;>intro a5<;>try simp only[qs] at a5
 ·have Y:k-1+1=k:=by omega
  have j:=dfq y x O (k:=k-1) oO (by rw[Y];exact s);rw[r,p] at j;refine zkk (M (zc λ_ I=>CW.block (zc λ_ H=>?_)));refine CW.jQ dZ oR λb1 D t=>?_;have d:=d.ta t;refine ym rfl (ym rfl ?_);refine WS.ev (Ev.ixR ((k-1)) rfl rfl (o.q8 d) oO oO oT) rfl ?_;refine WS.ev (Ev.load rfl rfl ((o.q8 d).u32 oF)) rfl ?_;have b5:=y.getD ((k-1));refine ym rfl (ym rfl ?_);refine WS.ev (Ev.ixR ((k-1)) rfl rfl (l.q8 d) oO oO oT) rfl ?_;refine WS.ev (Ev.load rfl rfl ((l.q8 d).u32 oF)) rfl ?_;have b4:=x.getD ((k-1));refine WS.ev (Ev.neq rfl rfl) rfl ?_;refine WS.nil (D _ _ ?_);refine H ?_;refine zy rfl ?_ ?_<;>intro a4<;>try simp only[qs] at a4
  ·refine zc λ_ G=>?_
   refine CW.cQ 12 rfl dZ λb0 C i t=>?_;have d:=d.ta t;have g:=d;refine wh 0 rfl i (eM rfl) (wh 1 rfl i (eM rfl) (wh 2 rfl i (λ_ h=>Ev.ixR ((k-1)) rfl rfl (o.q8 (g.trans h)) oO oO oT) (wh 3 rfl i (λ_ h=>Ev.load rfl rfl ((o.q8 (g.trans h)).u32 oF)) ?_)));have b3:=y.getD ((k-1));refine wh 4 rfl i (λ_ _=>Ev.eZ rfl rfl (tX oO)) (wh 5 rfl i (eM rfl) (wh 6 rfl i (eM rfl) (wh 7 rfl i (λ_ h=>Ev.ixR ((k-1)) rfl rfl (l.q8 (g.trans h)) oO oO oT) (wh 8 rfl i (λ_ h=>Ev.load rfl rfl ((l.q8 (g.trans h)).u32 oF)) ?_))));have b2:=x.getD ((k-1));refine wh 9 rfl i (λ_ _=>Ev.eZ rfl rfl (tX oO)) ?_;refine WH.k7 10 rfl oR hasF278 rfl rfl (d6x _ _ _) λv w2 h'=>?_;obtain ⟨rfl,rfl⟩:=h';rw[cmpS_nat];refine ⟨i,?_⟩;refine wh 11 rfl i (eA rfl) ?_;refine WH.done oR (C _ _ _ ?_);refine G ?_;refine zr (zr1 rfl rfl ?_);refine ⟨?_,d⟩;have e:sgn (A.getD (k-1) 0) (B.getD (k-1) 0)=sgn m n:=by
    rcases Nat.lt_or_gt_of_ne (show A.getD (k-1) 0≠B.getD (k-1) 0 by omega) with q|q
    · rw[j.1 q];unfold sgn;rw[if_pos q]
    rw[j.2.1 q];unfold sgn;rw[if_neg oO,if_pos q]
   rw[e]
  refine zkk (I (zS λ_ z=>zm rfl ?_))
  first|refine WL.ev (Ev.dX rfl rfl oO) rfl ?_|refine WL.ev (Ev.sub rfl rfl) rfl ?_
  refine za rfl (zz (z ?_));refine ⟨rfl,k-1,?_,?_,?_⟩
  ·exact SLp
  ·exact ⟨by omega,j.2.2 oO,d⟩
  omega
 refine CW.exit ?_;refine R (Sr λ_ F=>za rfl (zz (F ?_)));refine zr (zr1 rfl rfl ?_);have Z:k=0:=by omega
 subst Z;rw[List.drop_zero,List.drop_zero] at s;rw[<- r,<- p,s,dej];exact ⟨rfl,d⟩
theorem dgq(va vb:Value)(d h:List Nat)(w:World)(ha:NU w va d)(hb:NU w vb h)(a4:val h<=val d):Ret Tryz.prog 273 [va,vb] w λu w'=>NU w' u (wd (val d-val h))/\Chg [] w w':=by
 obtain ⟨⟨V,T,rfl,Y,q⟩,k,b7⟩:=ha;obtain ⟨⟨b0,a9,rfl,X,p⟩,j,b6⟩:=hb;have e:=crf w;refine zE2 Tryz.func273 rfl ?_;refine Sr λ_ a3=>za rfl (zz (a3 (Sr λ_ a2=>zm rfl (zn rfl ?_))));refine WL.bcq ((d).length) ((d).length) rfl rfl oO oO oO oO oO rfl λU b1 f s r=>?_;have t:=Nat.le_trans e.size r;have e:=e.ta s;refine za rfl (zz (a2 (Sr λ_ a1=>za rfl (zz (a1 (zc λ_ a0=>Sr λ_ Z=>zm rfl (zn rfl (zm rfl (zz (Z (CW.block ?_)))))))))));refine CW.loop (S:=λg:Nat×List Nat×Nat=>[(0,.slice V d.length T),(1,.slice b0 h.length a9),(5,.slice (some ⟨U,0,none⟩) d.length d.length),(6,.int .u64 (g.2.2:Int)),(14,.slice V d.length T),(15,.int .i64 (d.length:Int)),(16,.int .i64 (g.1:Int))]) (Inv:=KSr d h w U) (mu:=λg=>d.length-g.1) ((0,List.replicate d.length 0,0)) ?_ ?_ ?_
 ·exact ⟨dwq.zero oS (oJ _),f,e⟩
 ·exact SLp
 rintro ⟨i,L,c⟩ wr ⟨l,f,e⟩;dsimp only at l f e;dsimp only;have c5:=l.le;have a8:=l.len;have c6:=l.c1;have c4:=k.getD i;have c3:=j.getD i;refine Sr λ_ M=>zL rfl rfl (zz (M (zc λ_ J=>?_)));refine zy rfl ?_ ?_<;>intro a6<;>try simp only[qs] at a6
 ·refine zkk (J (zc λ_ o=>CW.block (Sr λ_ I=>zm rfl ?_)));refine WL.ev (Ev.ixR (i) rfl rfl (q.q8 e) oO oO oT) rfl ?_
  refine WL.ev (Ev.load rfl rfl ((q.q8 e).u32 oF)) rfl ?_;have b5:=k.getD (i);refine za rfl (za rfl (zz (I (Sr λ_ H=>zm rfl (za rfl (zz (H (zc λ_ n=>Sr λ_ G=>zm rfl (zm rfl (zn rfl (zL rfl rfl (zz (G ?_)))))))))))));refine zy rfl ?_ ?_<;>intro a5<;>try simp only[qs] at a5
  ·refine zR λ_ B=>?_
   refine zm rfl (zm rfl (zm rfl ?_));refine WL.ev (Ev.ixR (i) rfl rfl (p.q8 e) oO oO oT) rfl ?_;refine WL.ev (Ev.load rfl rfl ((p.q8 e).u32 oF)) rfl ?_;have b4:=j.getD (i);refine WL.ev (Ev.eZ rfl rfl (jX oO)) rfl ?_
   first|refine WL.ev (Ev.iJ rfl rfl oO) rfl ?_|refine WL.ev (Ev.abq rfl rfl) rfl ?_
   refine za rfl ?_;refine WL.nil (B _ _ _ (n ?_));refine Sr λ_ F=>zm rfl ?_;refine WL.ev (Ev.eZ rfl rfl (jX oO)) rfl ?_;refine zm rfl ?_;refine WL.ev (Ev.czj (a:=d.getD i 0) (b:=c+h.getD i 0) rfl rfl oO) rfl ?_;refine za rfl (zz (F ?_));refine zR λ_ A=>?_;refine zm rfl (zm rfl (zm rfl ?_));refine WL.ev (Ev.tJ (a:=(d.getD i 0+(18446744073709551616-(c+h.getD i 0)))%18446744073709551616) rfl rfl) rfl ?_;rw[show (d.getD i 0+(18446744073709551616-(c+h.getD i 0)))%18446744073709551616%4294967296=(d.getD i 0+8589934592-h.getD i 0-c)%4294967296 by omega];refine zm rfl ?_;refine WL.ev (Ev.avx (a:=(d.getD i 0+(18446744073709551616-(c+h.getD i 0)))%18446744073709551616) (b:=63) rfl rfl (by simp only[IntKind.bits];omega)) rfl ?_;rw[show (d.getD i 0+(18446744073709551616-(c+h.getD i 0)))%18446744073709551616/2^63=(if d.getD i 0<h.getD i 0+c then 1 else 0) by split<;>omega];refine WL.ev (Ev.ixB (i) rfl rfl oO oO) rfl ?_;refine WL.tQ rfl rfl f oF λc2 m R=>?_;have e:=e.s1 R;have f:=m;refine za rfl ?_;refine WL.nil (A _ _ _ (o ?_));refine zS λ_ z=>?_;(first|refine zi rfl rfl ?_|refine zo rfl rfl ?_);refine zm rfl (zz (z ?_));refine ⟨rfl,(i+1,L.set i ((d.getD i 0+8589934592-h.getD i 0-c)%4294967296),(if d.getD i 0<h.getD i 0+c then 1 else 0)),?_,?_,?_⟩
   ·exact SLp
   ·exact ⟨l.step k j oO,f,e⟩
   show d.length-(i+1)<d.length-i;omega
  have e0:Value.int IntKind.u64 (c:Int)=Value.int IntKind.u64 ((c+h.getD i 0:Nat):Int):=by rw[aaj oO];rfl
  rw[e0];refine zkk (n (Sr λ_ D=>zm rfl ?_));refine WL.ev (Ev.eZ rfl rfl (jX oO)) rfl ?_;refine zm rfl ?_;refine WL.ev (Ev.czj (a:=d.getD i 0) (b:=c+h.getD i 0) rfl rfl oO) rfl ?_;refine za rfl (zz (D ?_));refine zR λ_ y=>?_;refine zm rfl (zm rfl (zm rfl ?_));refine WL.ev (Ev.tJ (a:=(d.getD i 0+(18446744073709551616-(c+h.getD i 0)))%18446744073709551616) rfl rfl) rfl ?_;rw[show (d.getD i 0+(18446744073709551616-(c+h.getD i 0)))%18446744073709551616%4294967296=(d.getD i 0+8589934592-h.getD i 0-c)%4294967296 by omega];refine zm rfl ?_;refine WL.ev (Ev.avx (a:=(d.getD i 0+(18446744073709551616-(c+h.getD i 0)))%18446744073709551616) (b:=63) rfl rfl (by simp only[IntKind.bits];omega)) rfl ?_;rw[show (d.getD i 0+(18446744073709551616-(c+h.getD i 0)))%18446744073709551616/2^63=(if d.getD i 0<h.getD i 0+c then 1 else 0) by split<;>omega];refine WL.ev (Ev.ixB (i) rfl rfl oO oO) rfl ?_;refine WL.tQ rfl rfl f oF λb9 m Q=>?_;have e:=e.s1 Q;have f:=m;refine za rfl ?_;refine WL.nil (y _ _ _ (o ?_));refine zS λ_ x=>?_;(first|refine zi rfl rfl ?_|refine zo rfl rfl ?_);refine zm rfl (zz (x ?_));refine ⟨rfl,(i+1,L.set i ((d.getD i 0+8589934592-h.getD i 0-c)%4294967296),(if d.getD i 0<h.getD i 0+c then 1 else 0)),?_,?_,?_⟩
  ·exact SLp
  ·exact ⟨l.step k j oO,f,e⟩
  show d.length-(i+1)<d.length-i;omega
 have O:i=d.length:=by omega
 subst O;have a7:=NU.nX f l.w oO a8.symm (Nat.le_refl _);refine CW.exit ?_;refine a0 (Sr λ_ C=>zm rfl ?_);refine WL.call hasF266 rfl rfl (a6j _ _ _ a7) λv w1 h'=>?_;obtain ⟨hN,rfl⟩:=h';rw[l.done k j a4] at hN;refine za rfl (zz (C ?_));refine zr (zr1 rfl rfl ?_);exact ⟨hN,e⟩
end
namespace Wd
theorem eaq{a b:List Nat}(g:W a)(f:W b)(d:a.length=b.length)(e:val a=val b):a=b:=by
  induction a generalizing b with
  | nil=>cases b with
    | nil=>rfl
    | cons y b=>simp at d
  | cons x a ih=>
    cases b with
    | nil=>simp at d
    | cons y b=>
      obtain ⟨m,i⟩:=zX.1 g
      obtain ⟨l,h⟩:=zX.1 f
      simp only[val] at e
      have k:x=y:=by omega
      have j:=ih i h (by simpa using d) oO
      rw[k,j]
theorem low_or{x y s:Nat}(e:x<4294967296)(l:s<32):x/2^s||| (y*2^(32-s)%4294967296)=(x+y*4294967296)/2^s%4294967296:=by
  have b:=Nat.two_pow_pos s
  have a:(4294967296:Nat)=2^s*2^(32-s):=by rw[<- Nat.pow_add,show s+(32-s)=32 by omega]
  have k:y*2^(32-s)%4294967296=(y%2^s)*2^(32-s):=by rw[a,Nat.mul_mod_mul_right]
  have f:x/2^s<2^(32-s):=by
    rw[Nat.div_lt_iff_lt_mul b,Nat.mul_comm,<- a];exact e
  have j:(x+y*4294967296)/2^s=x/2^s+y*2^(32-s):=by
    rw[a,show y*(2^s*2^(32-s))=2^s*(y*2^(32-s)) by rw[Nat.mul_left_comm],Nat.add_mul_div_left _ _ b]
  rw[k,agj f,j]
  have g:y%2^s+1<=2^s:=Nat.mod_lt _ b
  have d:=Nat.mul_le_mul_right (2^(32-s)) g
  rw[<- a,Nat.add_mul,Nat.one_mul] at d
  have i:x/2^s+y*2^(32-s)=(x/2^s+y%2^s*2^(32-s))+4294967296*(y/2^s):=by
    have:=Nat.mod_add_div y (2^s)
    have m:y*2^(32-s)=y%2^s*2^(32-s)+4294967296*(y/2^s):=by
      conv=>lhs;rw[<- this]
      rw[Nat.add_mul,a]
      simp only[Nat.mul_comm,Nat.mul_left_comm,Nat.mul_assoc]
    omega
  have h:(x/2^s+y*2^(32-s))%4294967296=x/2^s+y%2^s*2^(32-s):=by
    rw[i,Nat.add_mul_mod_self_left]
    exact Nat.mod_eq_of_lt oO
  exact h.symm
theorem lower_words{l L:List Nat}{s:Nat}(i:W l)(e:W L)(b:L.length=l.length)(g:0<l.length)(a:l.getD (l.length-1) 0≠0)(k:s<32)(d:val L=val l/2^s):
    (L.getD (l.length-1) 0≠0->L=wd (val l/2^s))/\(L.getD (l.length-1) 0=0->L.take (l.length-1)=wd (val l/2^s)):=by
  refine ⟨λh=>?_,λh=>?_⟩
  · rw[<- d];exact (brx e (.inr (by rw[b];exact h))).symm
  · have f:val L=val (L.take (l.length-1)):=by
      have:=gZ L (l.length-1)
      rw[h,show l.length-1+1=L.length by omega,List.take_length] at this
      simpa using this
    have j:2^(32*(l.length-1))<=val l:=by
      have:=bl_val i (List.length_pos_iff.1 g) a
      have m:=blq a
      exact cbx.1 oO
    refine eaq (e.take _) (W_wd _) ?_ (by rw[g7,<- d,f])
    rw[List.length_take,Nat.min_eq_left oO]
    refine Nat.le_antisymm ?_ (aX.2 ?_)
    · by_cases hk:l.length-1=0
      · omega
      · have o:2^(32*(l.length-1-1))<=val l/2^s:=by
          rw[Nat.le_div_iff_mul_le (Nat.two_pow_pos s),<- Nat.pow_add]
          exact Nat.le_trans (Nat.pow_le_pow_right oD oO) j
        have n : ¬(wd (val l/2^s)).length<=l.length-1-1:=by rw[aX];omega
        omega
    · rw[<- d,f]
      have:=vZ (e.take (l.length-1))
      rwa [List.length_take,Nat.min_eq_left oO] at this
structure Dy where
  neg:Bool
  m:Nat
  e:Int
def Dy.zero:Dy:=⟨false,0,0⟩
def cX(neg:Bool)(n:Nat)(e:Int):Option Dy:=
  if n=0 then some Dy.zero else if 1048576-(tz n:Int)<e\/e < -1048576-(tz n:Int)\/8192<(wd (n/2^tz n)).length then none else some ⟨neg,n/2^tz n,e+tz n⟩
theorem kX(neg:Bool)(e:Int):cX neg 0 e=some Dy.zero:=by simp[cX]
theorem bux{neg:Bool}{n:Nat}{e:Int}(a:n≠0)(h:1048576-(tz n:Int)<e\/e < -1048576-(tz n:Int)\/8192<(wd (n/2^tz n)).length):cX neg n e=none:=by
  unfold cX;rw[if_neg a,if_pos h]
theorem sJ{neg:Bool}{n:Nat}{e:Int}(a:n≠0)(h : ¬(1048576-(tz n:Int)<e\/e < -1048576-(tz n:Int)\/8192<(wd (n/2^tz n)).length)):cX neg n e=some ⟨neg,n/2^tz n,e+tz n⟩:=by
  unfold cX;rw[if_neg a,if_neg h]
structure Dy.ok(d:Dy):Prop where
  z:d.m=0->d=Dy.zero
  odd:d.m≠0->d.m%2=1
  len:(wd d.m).length<=8192
  e : -1048576<=d.e/\d.e<=1048576
theorem jZ{neg:Bool}{n:Nat}{e:Int}{d:Dy}(h:cX neg n e=some d):d.ok:=by
  unfold cX at h
  split at h
  · cases h;exact ⟨λ_=>rfl,λh=>absurd rfl h,by simp[Dy.zero,fX],by simp[Dy.zero]⟩
  · split at h
    · cases h
    · rename_i h0 h1
      cases h
      obtain ⟨a,b⟩:=akj h0
      refine ⟨λf=>?_,λ_=>a,by simpa using (by omega:(wd (n/2^tz n)).length<=8192),by simp;omega⟩
      simp only at f
      rw[f] at a;simp at a
theorem nQ{d:Dy}(h:d.ok):cX d.neg d.m d.e=some d:=by
  by_cases h0:d.m=0
  · rw[h.z h0];rfl
  · have b:=h.odd h0
    have a:=cex b
    have g:=h.e
    have f:=h.len
    rw[sJ h0 (by rw[a];simp;omega),a]
    simp
def yQ(x y:Dy):Option Dy:=
  if x.m=0 then some y else if y.m=0 then some x else
  if 8192<(wd (x.m*2^(x.e-min x.e y.e).toNat)).length\/8192<(wd (y.m*2^(y.e-min x.e y.e).toNat)).length then none
  else if x.neg=y.neg then cX x.neg (x.m*2^(x.e-min x.e y.e).toNat+y.m*2^(y.e-min x.e y.e).toNat) (min x.e y.e)
  else if x.m*2^(x.e-min x.e y.e).toNat<y.m*2^(y.e-min x.e y.e).toNat then cX y.neg (y.m*2^(y.e-min x.e y.e).toNat-x.m*2^(x.e-min x.e y.e).toNat) (min x.e y.e)
  else cX x.neg (x.m*2^(x.e-min x.e y.e).toNat-y.m*2^(y.e-min x.e y.e).toNat) (min x.e y.e)
def gX(x y:Dy):Option Dy:=if 8192<(wd (x.m*y.m)).length then none else cX (x.neg != y.neg) (x.m*y.m) (x.e+y.e)
def bix(f:Dy->Dy->Option Dy)(a b:Option Dy):Option Dy:=
  match a,b with
  | some x,some y=>f x y
  | _,_=>none
theorem apj{f:Dy->Dy->Option Dy}{b:Option Dy}: bix f none b=none:=rfl
theorem amx{f:Dy->Dy->Option Dy}{a:Option Dy}: bix f a none=none:=by cases a<;>rfl
end Wd
namespace Wd
def nz(k:Nat):Nat:=if k<4503599627370496 then k else (4503599627370496+k%4503599627370496)*2^(k/4503599627370496-1)
theorem bgq{n x:Nat}(h:n<=9007199254740992)(a:x=0\/4503599627370496<=n):nz (n+x*4503599627370496)=n*2^x:=by
  unfold nz
  by_cases h1:n+x*4503599627370496<4503599627370496
  · rw[if_pos h1]
    have:x=0:=by omega
    subst this;simp
  · rw[if_neg h1]
    by_cases h2:n=9007199254740992
    · subst h2
      rw[show (9007199254740992+x*4503599627370496)%4503599627370496=0 by omega,show (9007199254740992+x*4503599627370496)/4503599627370496-1=x+1 by omega,Nat.pow_succ]
      omega
    · rw[show (n+x*4503599627370496)/4503599627370496-1=x by omega,show 4503599627370496+(n+x*4503599627370496)%4503599627370496=n by omega]
theorem dnx(k:Nat): ∃ n x,k=n+x*4503599627370496/\n<9007199254740992/\(x=0\/4503599627370496<=n):=by
  by_cases h:k<4503599627370496
  · exact ⟨k,0,by omega,by omega,.inl rfl⟩
  · exact ⟨4503599627370496+k%4503599627370496,k/4503599627370496-1,by omega,by omega,.inr oO⟩
theorem c7j{n x:Nat}(h:n<9007199254740992)(a:x=0\/4503599627370496<=n):nz (n+x*4503599627370496+1)=(n+1)*2^x:=by
  rw[show n+x*4503599627370496+1=(n+1)+x*4503599627370496 by omega]
  exact bgq oO oO
theorem cfq(k:Nat):nz k<nz (k+1):=by
  obtain ⟨n,x,rfl,b,a⟩:=dnx k
  rw[bgq oO a,c7j b a]
  exact Nat.mul_lt_mul_of_pos_right (Nat.lt_succ_self n) (Nat.two_pow_pos x)
theorem c8x{a b:Nat}(h:a<b):nz a<nz b:=by
  induction b with
  | zero=>omega
  | succ b ih=>
    by_cases e:a=b
    · subst e;exact cfq a
    · exact Nat.lt_trans (ih oO) (cfq b)
theorem nz_le{a b:Nat}(h:a<=b):nz a<=nz b:=by
  rcases Nat.lt_or_eq_of_le h with h|rfl
  · exact Nat.le_of_lt (c8x h)
  · exact Nat.le_refl _
def upM(mode:Int)(neg:Bool)(k A M:Nat):Bool:=
  if mode=0 then decide (M<A)||(decide (M=A)&&decide (k%2=1))
  else if mode=2 then !neg
  else if mode=3 then neg
  else if mode=4 then decide (M<=A)
  else false
def mX(A B:Nat)(neg:Bool)(mode:Int)(r:Nat):Prop:=
  ∃ k,k<9218868437227405312/\2*nz k*B<=A/\(A<2*nz (k+1)*B\/k+1=9218868437227405312)/\
    r=if 2*nz k*B=A then k else if upM mode neg k A ((nz k+nz (k+1))*B) then k+1 else k
theorem mX.unique{A B:Nat}{neg:Bool}{mode:Int}{r f:Nat}(s:0<B)(h:mX A B neg mode r)(q:mX A B neg mode f):r=f:=by
  obtain ⟨k,o,n,m,rfl⟩:=h
  obtain ⟨l,j,i,g,rfl⟩:=q
  have key : ∀ a b,2*nz a*B<=A->(A<2*nz (b+1)*B\/b+1=9218868437227405312)->a<9218868437227405312->a<=b:=by
    intro a b v d u
    rcases d with d|d
    · apply Nat.le_of_not_lt
      intro p
      have:=nz_le (show b+1<=a by omega)
      have t:2*nz (b+1)*B<=2*nz a*B:=Nat.mul_le_mul_right _ oO
      omega
    · omega
  have e:k=l:=Nat.le_antisymm (key k l n g o) (key l k i m j)
  subst e;rfl
theorem cmj{a b u v S T:Nat}(g:0<S)(hT:0<T)(e:a*S=u*T)(d:b*S=v*T):(a<=b↔u<=v)/\(b<=a↔v<=u):=by
  have key : ∀ {a b u v:Nat},a*S=u*T->b*S=v*T->(a<=b↔u<=v):=by
    intro a b u v e d
    constructor
    · intro h
      have f:=Nat.mul_le_mul_right S h
      rw[e,d] at f
      exact Nat.le_of_mul_le_mul_right f hT
    · intro h
      have f:=Nat.mul_le_mul_right T h
      rw[<- e,<- d] at f
      exact Nat.le_of_mul_le_mul_right f g
  exact ⟨key e d,key d e⟩
theorem mX.congr{A B a B':Nat}{neg:Bool}{mode:Int}{r:Nat}(i:0<B)(d:0<B')(f:A*B'=a*B)(h:mX A B neg mode r):mX a B' neg mode r:=by
  have b : ∀ c,(c*B<=A↔c*B'<=a)/\(A<=c*B↔a<=c*B'):=λc=>
    cmj (S:=B') (T:=B) d i (by rw[Nat.mul_right_comm]) f
  obtain ⟨k,m,l,j,rfl⟩:=h
  have q:=b (2*nz k)
  have t:=b (2*nz (k+1))
  have s:=b (nz k+nz (k+1))
  have e:2*nz k*B=A↔2*nz k*B'=a:=by omega
  have u:upM mode neg k A ((nz k+nz (k+1))*B)=upM mode neg k a ((nz k+nz (k+1))*B'):=by
    unfold upM
    generalize (nz k+nz (k+1))*B=M at *
    generalize (nz k+nz (k+1))*B'=M' at *
    have p:decide (M<A)=decide (M'<a):=decide_eq_decide.2 oO
    have o:decide (M=A)=decide (M'=a):=decide_eq_decide.2 oO
    have n:decide (M<=A)=decide (M'<=a):=decide_eq_decide.2 oO
    rw[p,o,n]
  refine ⟨k,m,q.1.1 l,j.imp (λh=>by omega) id,?_⟩
  rw[u]
  by_cases hq:2*nz k*B=A
  · rw[if_pos hq,if_pos (e.1 hq)]
  · rw[if_neg hq,if_neg (λg=>hq (e.2 g))]
def dyA(m:Nat)(e:Int):Nat:=m*2^(e+1075).toNat
def dyB(e:Int):Nat:=2^(-(e+1075)).toNat
theorem zZ(e:Int):0<dyB e:=Nat.two_pow_pos _
theorem dy_scale{m:Nat}{e:Int}{cut t:Nat}(h:e+1075=(t:Int)-(cut:Int)):dyA m e*2^cut=m*2^t*dyB e:=by
  unfold dyA dyB
  by_cases hc:cut<=t
  · rw[show (e+1075).toNat=t-cut by omega,show (-(e+1075)).toNat=0 by omega,Nat.mul_assoc,<- Nat.pow_add,show t-cut+cut=t by omega,Nat.pow_zero,Nat.mul_one]
  · rw[show (e+1075).toNat=0 by omega,show (-(e+1075)).toNat=cut-t by omega,Nat.pow_zero,Nat.mul_one,Nat.mul_assoc,<- Nat.pow_add,show t+(cut-t)=cut by omega]
theorem cvx{B:Nat}(a:0<B)(neg:Bool)(mode:Int):mX 0 B neg mode 0:=by
  refine ⟨0,by omega,by simp[nz],.inl ?_,by simp[nz]⟩
  have:nz (0+1)=1:=by decide
  rw[this];omega
theorem near_exact{m n x:Nat}{e:Int}{neg:Bool}{mode:Int}(h:n<9007199254740992)(b:x=0\/4503599627370496<=n)(g:n+x*4503599627370496<9218868437227405312){c:Nat}(f:n=m*2^c)(j:e+1075=(x:Int)+1+(c:Int)):mX (dyA m e) (dyB e) neg mode (n+x*4503599627370496):=by
  have a:dyA m e=2*(n*2^x)*dyB e:=by
    unfold dyA dyB
    rw[show (e+1075).toNat=c+(x+1) by omega,show (-(e+1075)).toNat=0 by omega,f,Nat.pow_add,Nat.pow_succ,Nat.pow_zero,Nat.mul_one]
    simp only[Nat.mul_comm,Nat.mul_left_comm,Nat.mul_assoc]
  have d:=bgq (n:=n) (x:=x) oO b
  refine ⟨n+x*4503599627370496,g,by rw[d,a];exact Nat.le_refl _,.inl ?_,?_⟩
  · rw[c7j h b,a]
    have i:=Nat.mul_pos (Nat.two_pow_pos x) (zZ e)
    have:2*((n+1)*2^x)*dyB e=2*(n*2^x)*dyB e+2*(2^x*dyB e):=by
      rw[Nat.add_mul n 1,Nat.one_mul,Nat.mul_add,Nat.add_mul,Nat.mul_assoc 2 (2^x)]
    omega
  · rw[d,if_pos a.symm]
theorem near_cut{m n x cut:Nat}{e:Int}{neg half:Bool}{mode:Int}{up:Bool}(h:n<9007199254740992)(I:x=0\/4503599627370496<=n)(hk:n+x*4503599627370496<9218868437227405312)(hc:0<cut)(hm:m%2=1)(O:n=m/2^cut)(he:e+1075=(x:Int)+1-(cut:Int))
    (R:half=m.testBit (cut-1))
    (w:up=if mode=0 then (half&&(!decide (cut=1)||decide (n%2=1))) else if mode=4 then half else if mode=2 then !neg else if mode=3 then neg else false) :
    mX (dyA m e) (dyB e) neg mode (if up then n+1+x*4503599627370496 else n+x*4503599627370496):=by
  have D:=dy_scale (m:=m) (e:=e) (cut:=cut) (t:=x+1) oO
  have hB:=zZ e
  generalize hA:dyA m e=A at *
  generalize dyB e=B at *
  have i:=Nat.two_pow_pos cut
  have p:=Nat.two_pow_pos x
  have a:2^cut=2*2^(cut-1):=by rw[show cut=cut-1+1 by omega,Nat.pow_succ,Nat.mul_comm];simp
  have k:=Nat.two_pow_pos (cut-1)
  -- the value by its quotient and what is left
  have J:m=2^cut*n+m%2^cut:=by rw[O];exact (Nat.div_add_mod m (2^cut)).symm
  have j:=Nat.mod_lt m i
  have F:m%2^cut%2=1:=by
    rw[a] at *
    rw[Nat.mod_mul_right_mod];exact hm
  generalize hrr:m%2^cut=r at *
  have u:half=decide (2^(cut-1)<=r):=by
    rw[R,Nat.testBit_eq_decide_div_mod_eq]
    refine decide_eq_decide.2 ?_
    have Z:m/2^(cut-1)=2*n+r/2^(cut-1):=by
      conv=>lhs;rw[J,a,Nat.mul_comm 2,Nat.mul_assoc,Nat.mul_add_div k]
    rw[Z]
    have e2:r/2^(cut-1)<2:=by rw[Nat.div_lt_iff_lt_mul k,<- a];exact j
    have Y:=Nat.div_add_mod r (2^(cut-1))
    have X:=Nat.mod_lt r k
    clear Z J D a
    generalize r/2^(cut-1)=d at *
    generalize r%2^(cut-1)=f at *
    generalize 2^(cut-1)=C1 at *
    rcases (by omega:d=0\/d=1) with q|q
    · subst q;rw[Nat.mul_zero] at Y;omega
    · subst q;rw[Nat.mul_one] at Y;omega
  have l:(r=2^(cut-1))↔(2^(cut-1)<=r/\cut=1):=by
    constructor
    · intro v
      refine ⟨by omega,?_⟩
      apply Classical.byContradiction
      intro h2
      have:2^(cut-1)=2*2^(cut-2):=by rw[show cut-1=cut-2+1 by omega,Nat.pow_succ,Nat.mul_comm]
      rw[this] at v
      generalize 2^(cut-2)=z at v
      omega
    · rintro ⟨v,rfl⟩
      simp at j v ⊢
      omega
  -- comparisons by the scale
  have H:=bgq (n:=n) (x:=x) oO I
  have G:=c7j h I
  have g:=Nat.mul_pos p hB
  have b:A*2^cut=2*m*(2^x*B):=by rw[D,Nat.pow_succ];simp only[Nat.mul_comm,Nat.mul_left_comm,Nat.mul_assoc]
  have V:2*nz (n+x*4503599627370496)*B*2^cut=2*(2^cut*n)*(2^x*B):=by rw[H];simp only[Nat.mul_comm,Nat.mul_left_comm,Nat.mul_assoc]
  have U:2*nz (n+x*4503599627370496+1)*B*2^cut=(2*(2^cut*n)+2*2^cut)*(2^x*B):=by
    rw[G,show 2*(2^cut*n)+2*2^cut=2*(2^cut*(n+1)) by rw[Nat.mul_add,Nat.mul_add,Nat.mul_one]]
    simp only[Nat.mul_comm,Nat.mul_left_comm,Nat.mul_assoc]
  have T:(nz (n+x*4503599627370496)+nz (n+x*4503599627370496+1))*B*2^cut=(2*(2^cut*n)+2^cut)*(2^x*B):=by
    rw[H,G,<- Nat.add_mul,show n+(n+1)=2*n+1 by omega,show 2*(2^cut*n)+2^cut=2^cut*(2*n+1) by rw[Nat.mul_add,Nat.mul_one,Nat.mul_left_comm]]
    simp only[Nat.mul_comm,Nat.mul_left_comm,Nat.mul_assoc]
  have c1:=cmj i g V b
  have c2:=cmj i g U b
  have c3:=cmj i g T b
  generalize hP:2*nz (n+x*4503599627370496)*B=P at *
  generalize hQ:2*nz (n+x*4503599627370496+1)*B=Q at *
  generalize hM:(nz (n+x*4503599627370496)+nz (n+x*4503599627370496+1))*B=M at *
  generalize 2^cut*n=y at *
  have s:cut=1->r=2^(cut-1):=λe=>by subst e;simp at j ⊢;omega
  generalize 2^(cut-1)=C1 at *
  generalize 2^cut=C at *
  clear R O D V U T H G b g p
  have k1:P<A:=by omega
  have k2:A<Q:=by omega
  have k3:M<A↔C1<r:=by omega
  have k4:M=A↔C1=r:=by omega
  have k5:M<=A↔C1<=r:=by omega
  refine ⟨n+x*4503599627370496,hk,by rw[hP];omega,.inl (by rw[hQ];exact k2),?_⟩
  rw[hP,hM,if_neg (show ¬P=A by omega)]
  have hu:up=upM mode neg (n+x*4503599627370496) A M:=by
    rw[w]
    unfold upM
    rw[decide_eq_decide.2 k3,decide_eq_decide.2 k4,decide_eq_decide.2 k5,u]
    by_cases m0:mode=0
    · rw[if_pos m0,if_pos m0]
      have X:(n+x*4503599627370496)%2=n%2:=by omega
      rw[X]
      by_cases a1:C1<r
      · have o : ¬cut=1:=λe=>by have:=s e;omega
        rw[decide_eq_true (Nat.le_of_lt a1),decide_eq_true a1,decide_eq_false o];simp
      · by_cases o:C1=r
        · have a3:=(l.1 o.symm).2
          rw[decide_eq_true (Nat.le_of_eq o),decide_eq_false a1,decide_eq_true o,decide_eq_true a3];simp
        · rw[decide_eq_false (show ¬C1<=r by omega),decide_eq_false a1,decide_eq_false o];simp
    · rw[if_neg m0,if_neg m0]
      by_cases m4:mode=4
      · rw[if_pos m4,if_neg oO,if_neg oO,if_pos m4]
      · rw[if_neg m4,if_neg m4]
  rw[hu]
  split<;>omega
theorem near_beyond{m:Nat}{e:Int}{neg:Bool}{mode:Int}(h:m≠0)(s:1024<(bl m:Int)+e)(r:0<=mode/\mode<=4):
    mX (dyA m e) (dyB e) neg mode (if mode=1\/(mode=2/\neg=true)\/(mode=3/\neg=false) then 9218868437227405311 else 9218868437227405312):=by
  have l:=blq h
  obtain ⟨t,i⟩ : ∃ t:Nat,e+1075=(t:Int)-((bl m-1:Nat):Int):=⟨(e+1075+((bl m-1:Nat):Int)).toNat,by omega⟩
  have j:=dy_scale (m:=m) i
  have f:=zZ e
  obtain ⟨T,u⟩ : ∃ T:Nat,T=2046:=⟨_,rfl⟩
  have o:nz 9218868437227405312=4503599627370496*2^T:=by
    have:=bgq (n:=4503599627370496) (x:=T) oO (.inr oO)
    rwa [show 4503599627370496+T*4503599627370496=9218868437227405312 by omega] at this
  have d:9218868437227405311+1=9218868437227405312:=by omega
  have k:nz 9218868437227405311<nz 9218868437227405312:=c8x oO
  have g:2*nz 9218868437227405312*dyB e<=dyA m e:=by
    have b:2^(bl m-1)*2^(52+T+1)<=m*2^t:=Nat.mul_le_mul (cxj h) (Nat.pow_le_pow_right oD oO)
    have a:=Nat.mul_le_mul_right (dyB e) b
    rw[<- j] at a
    have q:2*nz 9218868437227405312=2^(52+T+1):=by
      rw[o,show (4503599627370496:Nat)=2^52 by decide,<- Nat.pow_add,Nat.pow_succ' (n:=52+T)]
    rw[q]
    have p:2^(52+T+1)*dyB e*2^(bl m-1)<=dyA m e*2^(bl m-1):=by
      rw[Nat.mul_assoc,Nat.mul_comm (dyB e),<- Nat.mul_assoc,Nat.mul_comm (2^(52+T+1))];exact a
    exact Nat.le_of_mul_le_mul_right p (Nat.two_pow_pos _)
  generalize dyA m e=A at *
  generalize dyB e=B at *
  have b:2*nz 9218868437227405311*B<A:=Nat.lt_of_lt_of_le (Nat.mul_lt_mul_of_pos_right oO f) g
  have a:(nz 9218868437227405311+nz (9218868437227405311+1))*B<A:=Nat.lt_of_lt_of_le (Nat.mul_lt_mul_of_pos_right (by rw[d];omega) f) g
  refine ⟨9218868437227405311,by omega,Nat.le_of_lt b,.inr d,?_⟩
  rw[if_neg (Nat.ne_of_lt b)]
  generalize (nz 9218868437227405311+nz (9218868437227405311+1))*B=M at *
  unfold upM
  rcases (by omega:mode=0\/mode=1\/mode=2\/mode=3\/mode=4) with rfl|rfl|rfl|rfl|rfl
  · simp[a]
  · simp
  · cases neg<;>simp
  · cases neg<;>simp
  · simp[Nat.le_of_lt a]
end Wd
namespace Wd
set_option exponentiation.threshold 5000
def Few(c:Nat):Prop:=∃ n x,c=n*2^x/\n<=2^55
theorem d9j(k:Nat):Few (2*nz k):=by
  obtain ⟨n,x,rfl,b,a⟩:=dnx k
  rw[bgq oO a]
  exact ⟨2*n,x,by rw[Nat.mul_assoc],by omega⟩
theorem few_mid(k:Nat):Few (nz k+nz (k+1)):=by
  obtain ⟨n,x,rfl,b,a⟩:=dnx k
  rw[bgq oO a,c7j b a]
  exact ⟨n+(n+1),x,by rw[<- Nat.add_mul],by omega⟩
theorem few_grid{c a:Nat}{e:Int}(h:Few c)(i:2^60<=a):c*dyB e<2*a*2^(e+1075).toNat\/∃ t,c*dyB e=2*t*2^(e+1075).toNat:=by
  obtain ⟨n,x,rfl,d⟩:=h
  unfold dyB
  by_cases he:e+1075<=0
  · rw[show (e+1075).toNat=0 by omega]
    generalize (-(e+1075)).toNat=h
    rw[Nat.mul_assoc,<- Nat.pow_add]
    by_cases hx:x+h=0
    · rw[hx];left;simp;omega
    · right
      refine ⟨n*2^(x+h-1),?_⟩
      obtain ⟨y,b⟩ : ∃ y,x+h=y+1:=⟨x+h-1,by omega⟩
      rw[b,Nat.add_sub_cancel,Nat.pow_succ]
      simp only[Nat.pow_zero,Nat.mul_one]
      ac_rfl
  · rw[show (-(e+1075)).toNat=0 by omega]
    generalize (e+1075).toNat=h
    rw[Nat.pow_zero,Nat.mul_one]
    by_cases hx:h+1<=x
    · right
      obtain ⟨y,rfl⟩ : ∃ y,x=y+1+h:=⟨x-1-h,by omega⟩
      refine ⟨n*2^y,?_⟩
      rw[Nat.pow_add,Nat.pow_succ]
      ac_rfl
    · left
      have g:2^x<=2^h:=Nat.pow_le_pow_right oD oO
      have f:=Nat.two_pow_pos h
      calc n*2^x<=2^55*2^h:=Nat.mul_le_mul d g
        _<2*a*2^h:=Nat.mul_lt_mul_of_pos_right oO f
theorem sticky_cmp{c d rem q s:Nat}{e:Int}(h:Few c)(l:2^60<=d)(w:rem<q)(j:s=if rem=0 then 0 else 1):
    (c*(q*dyB e)<=dyA (2*(d*q+rem)) e↔c*dyB e<=dyA (2*d+s) e)/\(dyA (2*(d*q+rem)) e<=c*(q*dyB e)↔dyA (2*d+s) e<=c*dyB e):=by
  have g:=few_grid (e:=e) h l
  have i:=Nat.two_pow_pos (e+1075).toNat
  unfold dyA
  have v:c*(q*dyB e)=c*dyB e*q:=by ac_rfl
  rw[v]
  generalize c*dyB e=X at g ⊢
  generalize 2^(e+1075).toNat=H at g i ⊢
  rcases g with g|⟨t,rfl⟩
  · have x:X*q<2*d*H*q:=Nat.mul_lt_mul_of_pos_right g oO
    have r:2*(d*q+rem)*H=2*d*H*q+2*rem*H:=by
      rw[Nat.mul_add,Nat.add_mul];congr 1;ac_rfl
    have p:(2*d+s)*H=2*d*H+s*H:=Nat.add_mul ..
    rw[r,p]
    constructor<;>constructor<;>intro h<;>omega
  · have key : ∀ a b:Nat,(2*a*H<=2*b*H↔a<=b):=λa b=>by
      constructor
      · intro h
        have:=Nat.le_of_mul_le_mul_right h i
        omega
      · intro h;exact Nat.mul_le_mul_right _ oO
    have u:2*t*H*q=2*(t*q)*H:=by ac_rfl
    rw[u,key,key]
    have o:t*q<=d*q+rem↔t<=d:=by
      constructor
      · intro h
        apply Nat.le_of_not_lt
        intro k
        have:=Nat.mul_le_mul_right q (show d+1<=t from k)
        rw[Nat.add_mul,Nat.one_mul] at this
        omega
      · intro h
        have:=Nat.mul_le_mul_right q h
        omega
    have n:d*q+rem<=t*q↔(d<t\/(d=t/\rem=0)):=by
      constructor
      · intro h
        rcases Nat.lt_trichotomy d t with f|f|f
        · exact .inl f
        · subst f;exact .inr ⟨rfl,by omega⟩
        · have:=Nat.mul_le_mul_right q (show t+1<=d from f)
          rw[Nat.add_mul,Nat.one_mul] at this
          omega
      · rintro (f|⟨rfl,f⟩)
        · have:=Nat.mul_le_mul_right q (show d+1<=t from f)
          rw[Nat.add_mul,Nat.one_mul] at this
          omega
        · omega
    rw[o,n]
    have f:2*t*H<=(2*d+s)*H↔2*t<=2*d+s:=⟨λh=>Nat.le_of_mul_le_mul_right h i,λh=>Nat.mul_le_mul_right _ h⟩
    have m:(2*d+s)*H<=2*t*H↔2*d+s<=2*t:=⟨λh=>Nat.le_of_mul_le_mul_right h i,λh=>Nat.mul_le_mul_right _ h⟩
    rw[f,m,j]
    split<;>omega
theorem mX.alike{A B a B':Nat}{neg:Bool}{mode:Int}{r:Nat}(b : ∀ c,Few c->(c*B<=A↔c*B'<=a)/\(A<=c*B↔a<=c*B'))(h:mX A B neg mode r):mX a B' neg mode r:=by
  obtain ⟨k,i,g,f,rfl⟩:=h
  have n:=b _ (d9j k)
  have p:=b _ (d9j (k+1))
  have o:=b _ (few_mid k)
  have d:2*nz k*B=A↔2*nz k*B'=a:=by omega
  have u:upM mode neg k A ((nz k+nz (k+1))*B)=upM mode neg k a ((nz k+nz (k+1))*B'):=by
    unfold upM
    generalize (nz k+nz (k+1))*B=M at *
    generalize (nz k+nz (k+1))*B'=M' at *
    have m:decide (M<A)=decide (M'<a):=decide_eq_decide.2 oO
    have l:decide (M=A)=decide (M'=a):=decide_eq_decide.2 oO
    have j:decide (M<=A)=decide (M'<=a):=decide_eq_decide.2 oO
    rw[m,l,j]
  refine ⟨k,i,n.1.1 g,f.imp (λh=>by omega) id,?_⟩
  rw[u]
  by_cases hq:2*nz k*B=A
  · rw[if_pos hq,if_pos (d.1 hq)]
  · rw[if_neg hq,if_neg (λe=>hq (d.2 e))]
theorem near_sticky{a rem q:Nat}{e:Int}{neg:Bool}{mode:Int}{r:Nat}(b:2^60<=a)(d:rem<q)(h:mX (dyA (2*a+if rem=0 then 0 else 1) e) (dyB e) neg mode r):
    mX (dyA (2*(a*q+rem)) e) (q*dyB e) neg mode r:=
  h.alike λc hc=>by
    have:=sticky_cmp (c:=c) (e:=e) hc b d rfl
    exact ⟨this.1.symm,this.2.symm⟩
theorem dox{A B:Nat}{neg:Bool}{mode:Int}(b:0<B)(d:2*nz 9218868437227405312*B<=A)(h:0<=mode/\mode<=4):
    mX A B neg mode (if mode=1\/(mode=2/\neg=true)\/(mode=3/\neg=false) then 9218868437227405311 else 9218868437227405312):=by
  have a:9218868437227405311+1=9218868437227405312:=by omega
  have g:nz 9218868437227405311<nz 9218868437227405312:=c8x oO
  have f:2*nz 9218868437227405311*B<A:=Nat.lt_of_lt_of_le (Nat.mul_lt_mul_of_pos_right oO b) d
  have e:(nz 9218868437227405311+nz (9218868437227405311+1))*B<A:=Nat.lt_of_lt_of_le (Nat.mul_lt_mul_of_pos_right (by rw[a];omega) b) d
  refine ⟨9218868437227405311,by omega,Nat.le_of_lt f,.inr a,?_⟩
  rw[if_neg (Nat.ne_of_lt f)]
  generalize (nz 9218868437227405311+nz (9218868437227405311+1))*B=M at *
  unfold upM
  rcases (by omega:mode=0\/mode=1\/mode=2\/mode=3\/mode=4) with rfl|rfl|rfl|rfl|rfl
  · simp[e]
  · simp
  · cases neg<;>simp
  · cases neg<;>simp
  · simp[Nat.le_of_lt e]
theorem near_tiny{A B b B':Nat}{neg:Bool}{mode:Int}{r:Nat}(f:0<A)(h:A<B)(a:0<b)(i:b<B')(g:mX A B neg mode r):mX b B' neg mode r:=by
  have key : ∀ {A B:Nat},0<A->A<B->mX A B neg mode (if mode=2/\neg=false\/mode=3/\neg=true then 1 else 0):=by
    intro A B f h
    have e:nz 0=0:=by decide
    have d:nz (0+1)=1:=by decide
    refine ⟨0,by omega,by rw[e];omega,.inl (by rw[d];omega),?_⟩
    rw[e,d,if_neg (show ¬2*0*B=A by omega)]
    unfold upM
    by_cases m0:mode=0
    · subst m0;simp;omega
    by_cases m2:mode=2
    · subst m2;cases neg<;>simp
    by_cases m3:mode=3
    · subst m3;cases neg<;>simp
    by_cases m4:mode=4
    · subst m4;simp;omega
    · rw[if_neg m0,if_neg m2,if_neg m3,if_neg m4,if_neg oO];simp
  rw[g.unique oO (key f h)]
  exact key a i
theorem nz_end:2*nz 9218868437227405312=2^2099:=by
  have:=bgq (n:=4503599627370496) (x:=2046) oO (.inr oO)
  rw[show 4503599627370496+2046*4503599627370496=9218868437227405312 by omega] at this
  rw[this,show (4503599627370496:Nat)=2^52 by decide,<- Nat.pow_add,<- Nat.pow_succ']
structure cqq(A0 B i size a:Nat):Prop where
  z:i=0->size=0/\a=A0
  s:0<i->A0*2^(i-1)=size*B+a/\a<B
  w:size<2^i
theorem cqq.zero(a B:Nat):cqq a B 0 0 a:=⟨λ_=>⟨rfl,rfl⟩,λh=>absurd h oO,by simp⟩
theorem cqq.step{e B i b a a':Nat}(h:cqq e B i b a)(q:e<2*B)(f:a'=if 0<i then a*2^1 else a):(B<=a'->cqq e B (i+1) (b*2^1+1) (a'-B))/\(a'<B->cqq e B (i+1) (b*2^1) a'):=by
  obtain ⟨l,m,n⟩:=h
  have d:e*2^(i+1-1)=b*2^1*B+a'/\a'<2*B:=by
    by_cases h0:i=0
    · subst h0
      obtain ⟨rfl,rfl⟩:=l rfl
      rw[if_neg oO] at f
      subst f
      simp
      omega
    · obtain ⟨k,p⟩:=m oO
      rw[if_pos oO] at f
      obtain ⟨j,rfl⟩ : ∃ j,i=j+1:=⟨i-1,by omega⟩
      simp only[Nat.add_sub_cancel] at k ⊢
      rw[Nat.pow_succ,<- Nat.mul_assoc,k,f,Nat.add_mul]
      refine ⟨by simp only[Nat.pow_one];rw[Nat.mul_right_comm],by omega⟩
  have o:2^(i+1)=2^i*2:=Nat.pow_succ ..
  refine ⟨λg=>⟨λh=>by omega,λ_=>⟨?_,by omega⟩,by omega⟩,λg=>⟨λh=>by omega,λ_=>⟨d.1,g⟩,by omega⟩⟩
  rw[d.1,Nat.add_mul,Nat.one_mul]
  omega
theorem cfj{m q:Nat}(e:m≠0)(d:q≠0){a:Int}(p:a=(bl m:Int)-(bl q:Int)):
    m*2^(max 0 (-a)).toNat<2*(q*2^(max 0 a).toNat)/\q*2^(max 0 a).toNat<2*(m*2^(max 0 (-a)).toNat):=by
  have k:=adj e (max 0 (-a)).toNat
  have j:=adj d (max 0 a).toNat
  have i:bl (m*2^(max 0 (-a)).toNat)=bl (q*2^(max 0 a).toNat):=by
    rw[k,j]
    have:=blq e;have:=blq d
    omega
  have b:m*2^(max 0 (-a)).toNat≠0:=Nat.pos_iff_ne_zero.1 (Nat.mul_pos oO (Nat.two_pow_pos _))
  have g:q*2^(max 0 a).toNat≠0:=Nat.pos_iff_ne_zero.1 (Nat.mul_pos oO (Nat.two_pow_pos _))
  generalize m*2^(max 0 (-a)).toNat=x at *
  generalize q*2^(max 0 a).toNat=y at *
  have o:=cxj b
  have h:=cxj g
  have l:=cbj x
  have f:=cbj y
  have n:=blq b
  rw[<- i] at f h
  have:2^bl x=2^(bl x-1)*2:=by rw[<- Nat.pow_succ];congr 1;omega
  omega
theorem dzq(b:Int):((max 0 b).toNat:Int)-((max 0 (-b)).toNat:Int)=b:=by omega
theorem dig_size{e B i b a:Nat}(h:cqq e B i b a)(l:2<=i)(f:B<2*e):2^(i-2)<=b:=by
  obtain ⟨k,p⟩:=h.s oO
  apply Nat.le_of_not_lt
  intro d
  obtain ⟨j,rfl⟩ : ∃ j,i=j+2:=⟨i-2,by omega⟩
  simp only[Nat.add_sub_cancel] at d
  rw[show j+2-1=j+1 by omega,Nat.pow_succ] at k
  have g:(b+1)*B<=2^j*B:=Nat.mul_le_mul_right _ d
  rw[Nat.add_mul,Nat.one_mul] at g
  have o:B*2^j<2*e*2^j:=Nat.mul_lt_mul_of_pos_right f (Nat.two_pow_pos j)
  have n:e*(2^j*2)=2*e*2^j:=by ac_rfl
  have m:2^j*B=B*2^j:=Nat.mul_comm ..
  omega
theorem near_quot{m q b a:Nat}{E f e:Int}{neg:Bool}{mode:Int}{r:Nat}(T:m≠0)(R:q≠0)(V:f=(bl m:Int)-(bl q:Int))(i:0<=mode/\mode<=4)
    (z:cqq (m*2^(max 0 (-f)).toNat) (q*2^(max 0 f).toNat) 82 b a) (he:e=max (-3000) (min 3000 (f-81+E-1)))
    (h:mX (dyA (2*b+if a=0 then 0 else 1) e) (dyB e) neg mode r):mX (dyA m E) (q*dyB E) neg mode r:=by
  obtain ⟨l1,I⟩:=cfj T R V
  have n:=dig_size z oO I
  have J:=z.w
  obtain ⟨H,Y⟩:=z.s oO
  have O:=dzq f
  generalize hx:(max 0 (-f)).toNat=x at *
  generalize hy:(max 0 f).toNat=y at *
  rw[show 82-1=81 by omega] at H
  have j:0<q:=by omega
  -- the ratio,by its digits
  obtain ⟨d,U⟩ : ∃ d:Int,d=f-81+E-1:=⟨_,rfl⟩
  have g:dyA m E*(q*2^y*dyB d)=dyA (2*(b*(q*2^y)+a)) d*(q*dyB E):=by
    rw[<- H]
    unfold dyA dyB
    have o:y+(E+1075).toNat+(-(d+1075)).toNat=x+82+(d+1075).toNat+(-(E+1075)).toNat:=by omega
    calc m*2^(E+1075).toNat*(q*2^y*2^(-(d+1075)).toNat)=m*q*(2^y*2^(E+1075).toNat*2^(-(d+1075)).toNat):=by ac_rfl
      _=m*q*(2^x*2^82*2^(d+1075).toNat*2^(-(E+1075)).toNat):=by rw[<- Nat.pow_add,<- Nat.pow_add,o,Nat.pow_add,Nat.pow_add,Nat.pow_add]
      _=_:=by rw[show (2:Nat)^82=2*2^81 by rw[<- Nat.pow_succ']];ac_rfl
  have t:0<q*2^y*dyB d:=Nat.mul_pos (Nat.mul_pos j (Nat.two_pow_pos _)) (zZ _)
  have k:0<q*dyB E:=Nat.mul_pos j (zZ _)
  by_cases c1:e=d
  · subst c1
    have F:=near_sticky (q:=q*2^y) (rem:=a) (Nat.le_trans (Nat.pow_le_pow_right oD oD) n) Y h
    exact F.congr t k g.symm
  by_cases c2:3000<d
  · -- too great,both
    have G:e=3000:=by omega
    subst G
    have p : ∀ {M:Nat},2^80<=M->2*nz 9218868437227405312*dyB 3000<=dyA M 3000:=by
      intro M X
      rw[nz_end]
      unfold dyA dyB
      rw[show ((3000:Int)+1075).toNat=4075 by decide,show (-((3000:Int)+1075)).toNat=0 by decide,Nat.pow_zero,Nat.mul_one]
      exact Nat.le_trans (Nat.pow_le_pow_right oD (by omega:2099<=80+4075)) (by rw[Nat.pow_add];exact Nat.mul_le_mul_right _ X)
    have F:=dox (neg:=neg) (zZ 3000) (p (M:=2*b+if a=0 then 0 else 1) oO) i
    rw[h.unique (zZ _) F]
    refine dox k ?_ i
    -- the ratio itself
    have D:2*nz 9218868437227405312*(q*2^y*dyB d)<=dyA (2*(b*(q*2^y)+a)) d:=by
      rw[nz_end]
      unfold dyA dyB
      rw[show (-(d+1075)).toNat=0 by omega,Nat.pow_zero,Nat.mul_one]
      have C:2^2099<=2*2^80*2^(d+1075).toNat:=by
        rw[<- Nat.pow_succ',<- Nat.pow_add];exact Nat.pow_le_pow_right oD oO
      calc 2^2099*(q*2^y)<=2*2^80*2^(d+1075).toNat*(q*2^y):=Nat.mul_le_mul_right _ C
        _=2*(2^80*(q*2^y))*2^(d+1075).toNat:=by ac_rfl
        _<=2*(b*(q*2^y)+a)*2^(d+1075).toNat:=by
          refine Nat.mul_le_mul_right _ (Nat.mul_le_mul_left _ ?_)
          exact Nat.le_trans (Nat.mul_le_mul_right _ n) (Nat.le_add_right _ _)
    have l:=Nat.mul_le_mul_right (q*dyB E) D
    rw[<- g] at l
    have u:2*nz 9218868437227405312*(q*dyB E)*(q*2^y*dyB d)<=dyA m E*(q*2^y*dyB d):=by
      refine Nat.le_trans (Nat.le_of_eq ?_) l
      ac_rfl
    exact Nat.le_of_mul_le_mul_right u t
  · -- tiny,both
    have G:e = -3000:=by omega
    subst G
    have A:(dyB (-3000))=2^1925:=by unfold dyB;rw[show (-((-3000:Int)+1075)).toNat=1925 by decide]
    have B : ∀ M,dyA M (-3000)=M:=λM=>by unfold dyA;rw[show ((-3000:Int)+1075).toNat=0 by decide];simp
    rw[B] at h
    have v:2*b+(if a=0 then 0 else 1)<2^84:=by split<;>omega
    refine near_tiny oO (Nat.lt_of_lt_of_le v (by rw[A];exact Nat.pow_le_pow_right oD oD)) (Nat.mul_pos oO (Nat.two_pow_pos _)) ?_ h
    have D:dyA (2*(b*(q*2^y)+a)) d<q*2^y*dyB d:=by
      unfold dyA dyB
      rw[show (d+1075).toNat=0 by omega,Nat.pow_zero,Nat.mul_one]
      have C:2^84<=2^(-(d+1075)).toNat:=Nat.pow_le_pow_right oD oO
      have hQ:0<q*2^y:=Nat.mul_pos j (Nat.two_pow_pos _)
      generalize q*2^y=Q at *
      have l:(b+1)*Q<=2^82*Q:=Nat.mul_le_mul_right _ J
      rw[Nat.add_mul,Nat.one_mul] at l
      have u:Q*2^84<=Q*2^(-(d+1075)).toNat:=Nat.mul_le_mul_left _ C
      have Z:Q*2^84=4*(2^82*Q):=by rw[show (2:Nat)^84=4*2^82 by rw[show (4:Nat)=2^2 from rfl,<- Nat.pow_add]];ac_rfl
      omega
    have l:=Nat.mul_lt_mul_of_pos_right D k
    rw[<- g] at l
    have u:dyA m E*(q*2^y*dyB d)<q*dyB E*(q*2^y*dyB d):=by
      refine Nat.lt_of_lt_of_eq l ?_
      ac_rfl
    exact Nat.lt_of_mul_lt_mul_right u
end Wd
section
open Go Sx Wd
theorem lower_spec(v:Value)(l:List Nat)(s:Nat)(w:World)(h:NU w v l)(hs:s<32)(hp:0<l.length)(x:l.getD (l.length-1) 0≠0):Ret Tryz.prog 208 [v,.int .i64 (s:Int)] w λu w'=>NU w' u (wd (val l/2^s))/\Chg [] w w':=by
  obtain ⟨⟨al,cl,rfl,a9,n⟩,e,c5⟩:=h;have b:=crf w;refine zE2 Tryz.func208 rfl ?_;refine Sr λ_ a6=>za rfl (zz (a6 (Sr λ_ a5=>zm rfl (zn rfl ?_))));refine WL.bcq ((l).length) ((l).length) rfl rfl oO oO oO oO oO rfl λa0 b4 a z y=>?_;have A:=Nat.le_trans b.size y;have b:=b.trans z;refine za rfl (zz (a5 (zc λ_ a4=>Sr λ_ a3=>zm rfl (zn rfl (zm rfl (zz (a3 (CW.block ?_))))))));refine CW.loop (S:=λg:Nat×List Nat=>[(0,.slice al l.length cl),(1,.int .i64 (s:Int)),(5,.slice (some ⟨a0,0,none⟩) l.length l.length),(12,.slice al l.length cl),(13,.int .i64 (l.length:Int)),(14,.int .i64 (g.1:Int))]) (Inv:=KD l s w a0) (mu:=λg=>l.length-g.1) ((0,List.replicate l.length 0)) ?_ ?_ ?_
  · exact ⟨cdx.zero l _ s oS (oJ _),a,b⟩
  · exact SLp
  rintro ⟨i,L⟩ wr ⟨f,a,b⟩;dsimp only at f a b;have c6:=f.le;have b3:=f.len;have p:=f.w;refine Sr λ_ a2=>zL rfl rfl (zz (a2 (zc λ_ R=>?_)));refine zy rfl ?_ ?_<;>intro b2<;>try simp only[qs] at b2
  · refine zkk (R (zc λ_ t=>CW.block (Sr λ_ Q=>zm rfl ?_)));refine WL.ev (Ev.ixR (i) rfl rfl (n.q8 b) oO oO oT) rfl ?_
    refine WL.ev (Ev.load rfl rfl ((n.q8 b).u32 oF)) rfl ?_;have b8:=e.getD (i);refine za rfl (za rfl (zz (Q (Sr λ_ O=>zm rfl (zm rfl (zm rfl (zm rfl ?_)))))));refine WL.ev (Ev.avx rfl rfl (by simp only[IntKind.bits];omega)) rfl ?_;have c7:l.getD i 0/2^s<=l.getD i 0:=Nat.div_le_self _ _;refine WL.ev (Ev.ixB (i) rfl rfl oO oO) rfl ?_;refine WL.tQ rfl rfl a oF λc3 d Z=>?_;have b:=b.s2 Z;have a:=d;refine zz (O ?_);refine CW.oX 33 (decide (0<s/\i+1<l.length)) ?_ ?_
    · refine zS λ_ q=>zm rfl (zG rfl rfl (zm rfl ?_));refine zb ?_ ?_<;>intro a8<;>try simp only[qs] at a8
      · refine zw rfl (zm rfl (zw rfl ?_));(first|refine zi rfl rfl ?_|refine zo rfl rfl ?_);refine zw rfl (zm rfl (zw rfl (zn rfl (zw rfl (zL rfl rfl (zt rfl rfl (zz (q ?_))))))));refine ⟨rfl,rfl,j0.g8 rfl ?_ ?_⟩
        · first|(simp;omega)|(refine decide_eq_decide.2 ?_;omega)
        exact SMg
      refine zv rfl (zv rfl (zv rfl (zv rfl (zv rfl (ze rfl rfl (zz (q ?_)))))));refine ⟨rfl,rfl,j0.g8 rfl ?_ ?_⟩
      · first|(simp;omega)|(refine decide_eq_decide.2 ?_;omega)
      exact SMg
    refine zy rfl ?_ ?_<;>intro b1<;>try simp only[qs] at b1
    · refine CW.gJ 14 15 rfl dZ λb5 G j X=>?_
      have b:=b.trans X;have a:=a.k0 X;have m:=b;have o:=a;refine wk 0 rfl j (eM rfl) (wk 1 rfl j (eM rfl) (wk 2 rfl j (λ_ _=>Ev.ixB (i) rfl rfl oO oO) (wk 3 rfl j (λ_ k=>Ev.load rfl rfl ((o.q8 k).u32 oT)) ?_)));rw[yJ oO];refine wk 4 rfl j (eM rfl) (wk 5 rfl j (eM rfl) (wk 6 rfl j (λ_ _=>Ev.kQ rfl rfl oO) (wk 7 rfl j (λ_ k=>Ev.ixR ((i+1)) rfl rfl (n.q8 (m.trans k)) oO oO oT) (wk 8 rfl j (λ_ k=>Ev.load rfl rfl ((n.q8 (m.trans k)).u32 oF)) ?_))));have b7:=e.getD ((i+1));refine wk 9 rfl j (eM rfl) (wk 10 rfl j (λ_ _=>Ev.dX rfl rfl oO) ?_);rw[show (32:Int)-(s:Int)=((32-s:Nat):Int) by omega];refine wk 11 rfl j (λ_ _=>Ev.shlU32 rfl rfl) (wk 12 rfl j (λ_ _=>Ev.orU rfl rfl rfl (by simp only[IntKind.bits];omega) (by simp only[IntKind.bits];omega)) ?_);rw[low_or (e.getD i) hs];refine wk 13 rfl j (λ_ _=>Ev.ixB (i) rfl rfl oO oO) ?_;refine WK.tQ 14 rfl oR oR rfl rfl a oF λc2 d Y=>?_;have b:=b.s2 Y;have a:=d;refine WK.done oR (G _ _ _ ?_);refine t (zS λ_ F=>?_);(first|refine zi rfl rfl ?_|refine zo rfl rfl ?_);refine zm rfl (zz (F ?_));refine ⟨rfl,(i+1,L.set i ((l.getD i 0+l.getD (i+1) 0*4294967296)/2^s%4294967296)),?_,?_,?_⟩
      · exact SLp
      · rw[List.set_set] at a;exact ⟨f.step hs e oO rfl,a,b⟩
      show l.length-(i+1)<l.length-i;omega
    have V:l.getD i 0/2^s=(l.getD i 0+l.getD (i+1) 0*4294967296)/2^s%4294967296:=by
      by_cases q0:i+1<l.length
      · have:s=0:=by omega
        subst this;rw[Nat.pow_zero,Nat.div_one,Nat.div_one];omega
      rw[aaj (i:=i+1) oO,Nat.zero_mul,Nat.add_zero,Nat.mod_eq_of_lt oO]
    refine zkk (t (zS λ_ D=>?_));(first|refine zi rfl rfl ?_|refine zo rfl rfl ?_);refine zm rfl (zz (D ?_));refine ⟨rfl,(i+1,L.set i ((l.getD i 0+l.getD (i+1) 0*4294967296)/2^s%4294967296)),?_,?_,?_⟩
    · exact SLp
    · rw[V] at a;exact ⟨f.step hs e oO rfl,a,b⟩
    show l.length-(i+1)<l.length-i;omega
  refine CW.exit ?_;refine a4 (zc λ_ r=>zc λ_ M=>?_);have U:i=l.length:=by omega
  subst U;have a7:=f.done e;have T:=lower_words e p b3 hp x hs a7;refine zR λ_ C=>?_;refine zm rfl (zn rfl ?_)
  first|refine WL.ev (Ev.dX rfl rfl oO) rfl ?_|refine WL.ev (Ev.sub rfl rfl) rfl ?_
  refine za rfl ?_;refine WL.nil (C _ _ _ (M ?_));refine Sr λ_ J=>zm rfl (zm rfl ?_);refine WL.ev (Ev.ixB ((l.length-1)) rfl rfl oO oO) rfl ?_;refine WL.ev (Ev.load rfl rfl (a.u32 oF)) rfl ?_;have b6:=p.getD ((l.length-1));refine zq rfl rfl (zz (J ?_));refine zy rfl ?_ ?_<;>intro b0<;>try simp only[qs] at b0
  · refine zR λ_ B=>?_
    refine zm rfl (zm rfl (zm rfl ?_));refine WL.ev (Ev.slice3n ((l.length-1)) ((l.length-1)) rfl rfl rfl oO oO oO oO) rfl ?_;refine za rfl ?_;refine WL.nil (B _ _ _ (r ?_));refine Sr λ_ I=>zm rfl (za rfl (zz (I ?_)));refine zr (zr1 rfl rfl ?_);rw[<- T.2 oO];exact ⟨NU.part a.row p oO oO (Nat.le_refl _),b⟩
  refine zkk (r (Sr λ_ H=>zm rfl (za rfl (zz (H ?_)))));refine zr (zr1 rfl rfl ?_);rw[<- T.1 oO];exact ⟨NU.nX a p oO oO (Nat.le_refl _),b⟩
structure DY(w:World)(u:Value)(d:Dy):Prop where
  ex : ∃ r,u = .agg [.bool d.neg,r,.int .i64 d.e].toArray/\NU w r (wd d.m)
def DR(w:World)(u:Value)(x:Option Dy):Prop:=(∃ r d,x=some d/\u = .tuple [.agg [.bool d.neg,r,.int .i64 d.e].toArray,.int .i64 0].toArray/\NU w r (wd d.m))\/(x=none/\u = .tuple [.agg [.bool false,.slice none 0 0,.int .i64 0].toArray,.int .i64 2].toArray)
theorem abx(neg:Bool)(v:Value)(l:List Nat)(e:Int)(w:World)(h:NU w v l)(hg:GW w)(he : -9223372036854775808<=e/\e<=9223372036854775807):Ret Tryz.prog 133 [.bool neg,v,.int .i64 e] w λu w'=>DR w' u (cX neg (val l) e)/\Chg [] w w':=by
 obtain ⟨A,x⟩ : ∃ A,A=wd (val l):=⟨_,rfl⟩;have p:val A=val l:=by rw[x];exact g7 _
 have a:=crf w;refine zE3 Tryz.func133 rfl ?_;refine Sr λ_ a3=>?_;refine WL.iZ (l:=[.bool false,.slice none 0 0,.int .i64 0]) rfl rfl λb6 b5 d O I=>?_;have H:=Nat.le_trans a.size I;have a:=a.trans O;refine za rfl (zz (a3 (Sr λ_ a0=>zm rfl ?_)));refine WL.call hasF206 rfl rfl (b9x _ _ _ (h.q8 a)) λv w1 U=>?_;obtain ⟨t,o⟩:=U;rw[<- x] at t;have T:=t;obtain ⟨⟨a1,c1,rfl,r,a5⟩,Q,b9⟩:=T;have a:=a.trans o;have d:=d.k0 o;refine za rfl (zz (a0 (zc λ_ Z=>Sr λ_ Y=>zm rfl (zn rfl (zq rfl rfl (zz (Y ?_)))))));refine zy rfl ?_ ?_<;>intro s<;>try simp only[qs] at s
 ·refine Sr λ_ X=>?_
  refine WL.ev (Ev.build (vs:=_) (cs:=[_,_,_]) rfl rfl) rfl ?_;refine zss rfl rfl ao d rfl λb4 f M=>?_;(try simp only[qt] at f);have a:=a.s2 M;have d:=f;refine za rfl (zz (X ?_));refine zr (k9.iX rfl (aZ.cell rfl (d.fJ rfl rfl)) (aZ.tmp rfl) ?_);have a4:val l=0:=by rw[<- p,List.length_eq_zero_iff.1 (show A.length=0 by omega)];rfl
  rw[a4,kX];exact ⟨.inl ⟨_,_,rfl,rfl,by rw[show Dy.zero.m=0 from rfl,fX];exact NU.nil⟩,a⟩
 have j:val l≠0:=λe0=>by rw[e0,fX] at x;rw[x] at s;exact s rfl
 have b1:A.getD (A.length-1) 0≠0:=by rw[x];exact cix j
 obtain ⟨q,G⟩ : ∃ q,q=tz (val l):=⟨_,rfl⟩;have a6:=zJ j;have c4:bl (val l)<=32*A.length:=by rw[bdq,<- x];exact Nat.le_refl _
 rw[<- G] at a6;refine zkk (Z (Sr λ_ F=>zm rfl ?_));refine WL.call hasF207 rfl rfl (Low_spec _ _ _ t (hg.q8 a)) λv w2 U=>?_;obtain ⟨rfl,rfl⟩:=U;rw[p,<- G];refine za rfl (zz (F (Sr λ_ D=>zm rfl (zm rfl ?_))));refine WL.ev (Ev.dlq (b:=32) rfl rfl oO (tX oO).2) rfl ?_;refine WL.ev (Ev.brj ((q/32)) rfl rfl oO oO) rfl ?_;refine zm rfl ?_;refine WL.ev (Ev.dhx (b:=32) rfl rfl oO) rfl ?_;refine WL.call hasF208 rfl rfl (lower_spec _ (A.drop (q/32)) (q%32) _ (NU.adx (by rw[List.map_drop];exact a5.cut _ _ oT (by simpa using r)) (Q.drop _) oT oS oO) oO oT (by rw[List.length_drop,List.getD_eq_getElem?_getD,List.getElem?_drop,<- List.getD_eq_getElem?_getD,show q/32+(A.length-q/32-1)=A.length-1 by omega];exact b1)) λv w3 U=>?_;obtain ⟨g,n⟩:=U;rw[cij Q _ oO,p,eaj] at g;obtain ⟨B,V⟩ : ∃ B,B=wd (val l/2^q):=⟨_,rfl⟩;rw[<- V] at g;have R:=g;obtain ⟨⟨a2,c2,rfl,a9,b7⟩,c5,b8⟩:=R;have a:=a.trans n;have d:=d.k0 n;refine za rfl (zz (D (zc λ_ C=>?_)));refine CW.oX 39 (decide ((1048576-(q:Int)<e\/e < -1048576-(q:Int))\/8192<B.length)) ?_ ?_
 ·refine zS λ_ i=>zm rfl (zm rfl ?_);refine WL.ev (Ev.dX rfl rfl oO) rfl ?_;refine zG rfl rfl (zm rfl ?_);refine zb ?_ ?_<;>intro a8<;>try simp only[qs] at a8
  ·refine zv rfl (zv rfl (zv rfl (zv rfl (zt rfl rfl (zm rfl (zv rfl (zv rfl (zv rfl (zt rfl rfl (zz (i ?_)))))))))));refine ⟨rfl,rfl,j0.g8 rfl ?_ ?_⟩
   ·first|(simp;omega)|(refine decide_eq_decide.2 ?_;omega)
   exact SMg
  refine zw rfl (zm rfl (zw rfl (zm rfl (zw rfl ?_))))
  first|refine WL.ev (Ev.dX rfl rfl oO) rfl ?_|refine WL.ev (Ev.sub rfl rfl) rfl ?_
  refine zw rfl (zL rfl rfl (ze rfl rfl (zm rfl ?_)));refine zb ?_ ?_<;>intro a7<;>try simp only[qs] at a7
  ·refine zv rfl (zv rfl (zv rfl (zt rfl rfl (zz (i ?_)))));refine ⟨rfl,rfl,j0.g8 rfl ?_ ?_⟩
   ·first|(simp;omega)|(refine decide_eq_decide.2 ?_;omega)
   exact SMg
  refine zw rfl (zm rfl (zw rfl (zn rfl (zw rfl (zG rfl rfl (ze rfl rfl (zz (i ?_))))))));refine ⟨rfl,rfl,j0.g8 rfl ?_ ?_⟩
  ·first|(simp;omega)|(refine decide_eq_decide.2 ?_;omega)
  exact SMg
 refine zy rfl ?_ ?_<;>intro b0<;>try simp only[qs] at b0
 ·refine Sr λ_ z=>?_
  refine WL.ev (Ev.build (vs:=_) (cs:=[_,_,_]) rfl rfl) rfl ?_;refine zss rfl rfl ao d rfl λb3 f J=>?_;(try simp only[qt] at f);have a:=a.s2 J;have d:=f;refine za rfl (zz (z ?_));refine zr (k9.iX rfl (aZ.cell rfl (d.fJ rfl rfl)) (aZ.tmp rfl) ?_);rw[bux j (by rw[<- G,<- V];omega)];exact ⟨.inr ⟨rfl,rfl⟩,a⟩
 refine zkk (C (Sr λ_ y=>zm rfl (zm rfl (zm rfl (zm rfl ?_)))));(first|refine zi rfl rfl ?_|refine zo rfl rfl ?_);refine WL.ev (Ev.build (vs:=_) (cs:=[_,_,_]) rfl rfl) rfl ?_;refine zss rfl rfl ao d rfl λb2 f k=>?_;(try simp only[qt] at f);have a:=a.s2 k;have g:=g.q9 d k an;have d:=f;refine za rfl (zz (y ?_));refine zr (k9.iX rfl (aZ.cell rfl (d.fJ rfl rfl)) (aZ.tmp rfl) ?_);rw[sJ j (by rw[<- G,<- V];omega),<- G];refine ⟨.inl ⟨_,_,rfl,rfl,?_⟩,a⟩;simp only;rw[<- V];exact g
end
section
open Go Sx Wd
theorem a9q(q:Bool)(p:Value)(s:List Nat)(o:Int)(w:World)(D:NU w p s)(C:GW w)(x : -9223372036854775808<=o/\o<=9223372036854775807):Ret Tryz.prog 178 [.bool q,p,.int .i64 o] w λu w'=>DR w' u (cX q (val s) o)/\Chg [] w w':=by
 have a:=crf w;refine zE3 Tryz.func178 rfl ?_;refine Sr λ_ t=>?_;refine WL.iZ (l:=[.bool false,.slice none 0 0,.int .i64 0]) rfl rfl λI B b n k=>?_;have j:=Nat.le_trans a.size k;have a:=a.trans n;refine za rfl (zz (t (Sr λ_ i=>zm rfl (zm rfl (zm rfl ?_)))));refine WL.call hasF133 rfl rfl (abx q p s o _ (D.q8 a) (C.q8 a) x) λv H G=>?_;obtain ⟨F,g⟩:=G;have a:=a.trans g;have b:=b.k0 g;rcases F with ⟨r,d,y,rfl,h⟩|⟨y,rfl⟩
 ·refine zx rfl rfl (zx rfl rfl ?_);refine zss rfl rfl ao b rfl λA e f=>?_;(try simp only[qt] at e);have a:=a.s2 f;have h:=h.q9 b f an;have b:=e;refine za rfl (zz (i ?_));refine zr (k9.iX rfl (aZ.cell rfl (b.fJ rfl rfl)) (aZ.tmp rfl) ?_);exact ⟨.inl ⟨r,d,y,rfl,h⟩,a⟩
 refine zx rfl rfl (zx rfl rfl ?_);refine zss rfl rfl ao b rfl λz e m=>?_;(try simp only[qt] at e);have a:=a.s2 m;have b:=e;refine za rfl (zz (i ?_));refine zr (k9.iX rfl (aZ.cell rfl (b.fJ rfl rfl)) (aZ.tmp rfl) ?_);exact ⟨.inr ⟨y,rfl⟩,a⟩
theorem formD_int{n:Nat}{neg:Bool}(h:n<18446744073709551616): ∃ d,cX neg n 0=some d:=by
  by_cases h0:n=0
  · exact ⟨_,by rw[h0];exact kX _ _⟩
  · have i:=zJ h0
    have e:=vQ (n:=n) (k:=64)
    have b:n/2^tz n<=n:=Nat.div_le_self _ _
    have a:=aX (n:=n/2^tz n) (k:=2)
    have g:(wd (n/2^tz n)).length<=2:=a.2 (Nat.lt_of_le_of_lt b h)
    have f:bl n<=64:=e.2 h
    exact ⟨_,sJ h0 oO⟩
def cJ(n:Int):Dy:=((cX (decide (n<0)) n.natAbs 0).getD Dy.zero)
theorem bhx{n:Int}(h:n.natAbs<18446744073709551616):cX (decide (n<0)) n.natAbs 0=some (cJ n):=by
  obtain ⟨d,a⟩:=formD_int (neg:=decide (n<0)) h
  unfold cJ;rw[a];rfl
theorem bdj(n:Int)(w:World)(hg:GW w)(hn : -9223372036854775808<=n/\n<=9223372036854775807):Ret Tryz.prog 144 [.int .i64 n] w λu w'=>DY w' u (cJ n)/\Chg [] w w':=by
 have a:=crf w;refine zE1 Tryz.func144 rfl ?_;refine Sr λ_ V=>?_;refine WL.iZ (l:=[.bool false,.slice none 0 0,.int .i64 0]) rfl rfl λb2 a3 b J I=>?_;have H:=Nat.le_trans a.size I;have a:=a.trans J;refine zz (V (Sr λ_ U=>zm rfl ?_));refine WL.ev (Ev.conv rfl rfl) rfl ?_;rw[wX];refine za rfl (zz (U (zc λ_ C=>Sr λ_ T=>zm rfl (zL rfl rfl (zz (T ?_))))));refine zy rfl ?_ ?_<;>intro X<;>try simp only[qs] at X
 ·refine zR λ_ Q=>?_
  refine zm rfl ?_;refine WL.ev (Ev.neg rfl) rfl ?_;rw[wX,show (0-n%18446744073709551616)%18446744073709551616=((n.natAbs:Nat):Int) by omega];have A:n.natAbs=n.natAbs:=rfl;refine za rfl ?_;refine WL.nil (Q _ _ _ (C ?_));refine Sr λ_ R=>zm rfl (zL rfl rfl (zm rfl ?_));refine WL.call hasF134 rfl rfl (b8j n.natAbs _ oO) λv w1 B=>?_;obtain ⟨t,m⟩:=B;have a:=a.trans m;have b:=b.k0 m;refine WL.call hasF133 rfl rfl (abx _ _ _ 0 _ t (hg.q8 a) oO) λv w2 B=>?_;obtain ⟨M,k⟩:=B;rw[g7,A,bhx oO] at M;rcases M with ⟨r,d,z,rfl,e⟩|⟨z,rfl⟩
  rotate_left
  · cases z
  cases z;have a:=a.trans k;have b:=b.k0 k;refine zm rfl (zx rfl rfl (zx rfl rfl ?_));refine WL.iZ (l:=[.bool false,.slice none 0 0,.int .i64 0]) rfl rfl λb4 O g f h=>?_;have p:=Nat.le_trans a.size h;have a:=a.trans f;have e:=e.q8 f;have x:=zdd b.lt h;have b:=b.k0 f;refine zss rfl rfl ao g rfl λa2 i q=>?_;(try simp only[qt] at i);have a:=a.s2 q;have b:=b.kq q;have e:=e.q9 g q an;have g:=i;refine za rfl (zz (R (Sr λ_ G=>zg g rfl ?_)));refine zss rfl rfl ao b rfl λa1 j y=>?_;(try simp only[qt] at j);have a:=a.s2 y;have e:=e.q9 b y an;have b:=j;refine zz (G ?_);refine zr (k9.qJ rfl (aZ.cell rfl (b.fJ rfl rfl)) ?_);exact ⟨⟨⟨_,rfl,e⟩⟩,a⟩
 rw[show n%18446744073709551616=((n.natAbs:Nat):Int) by omega];have A:n.natAbs=n.natAbs:=rfl;refine zkk (C (Sr λ_ F=>zm rfl (zL rfl rfl (zm rfl ?_))));refine WL.call hasF134 rfl rfl (b8j n.natAbs _ oO) λv w3 B=>?_;obtain ⟨t,m⟩:=B;have a:=a.trans m;have b:=b.k0 m;refine WL.call hasF133 rfl rfl (abx _ _ _ 0 _ t (hg.q8 a) oO) λv w4 B=>?_;obtain ⟨M,k⟩:=B;rw[g7,A,bhx oO] at M;rcases M with ⟨r,d,z,rfl,e⟩|⟨z,rfl⟩
 rotate_left
 · cases z
 cases z;have a:=a.trans k;have b:=b.k0 k;refine zm rfl (zx rfl rfl (zx rfl rfl ?_));refine WL.iZ (l:=[.bool false,.slice none 0 0,.int .i64 0]) rfl rfl λb4 O g f h=>?_;have p:=Nat.le_trans a.size h;have a:=a.trans f;have e:=e.q8 f;have x:=zdd b.lt h;have b:=b.k0 f;refine zss rfl rfl ao g rfl λZ i o=>?_;(try simp only[qt] at i);have a:=a.s2 o;have b:=b.kq o;have e:=e.q9 g o an;have g:=i;refine za rfl (zz (F (Sr λ_ D=>zg g rfl ?_)));refine zss rfl rfl ao b rfl λY j s=>?_;(try simp only[qt] at j);have a:=a.s2 s;have e:=e.q9 b s an;have b:=j;refine zz (D ?_);refine zr (k9.qJ rfl (aZ.cell rfl (b.fJ rfl rfl)) ?_);exact ⟨⟨⟨_,rfl,e⟩⟩,a⟩
def BR(w:World)(u:Value)(a b:Option Dy):Prop:=
  (∃ x y rx ry,a=some x/\b=some y/\u = .tuple [.agg [.bool x.neg,rx,.int .i64 x.e].toArray,.agg [.bool y.neg,ry,.int .i64 y.e].toArray,.int .i64 0].toArray/\NU w rx (wd x.m)/\NU w ry (wd y.m))\/
  ((a=none\/b=none)/\∃ n1 v1 e1 n2 v2 e2,u = .tuple [.agg [.bool n1,v1,.int .i64 e1].toArray,.agg [.bool n2,v2,.int .i64 e2].toArray,.int .i64 2].toArray/\v1.oneCell'=true/\v2.oneCell'=true)
theorem duq(na nb:Bool)(va vb:Value)(la lb:List Nat)(ea eb:Int)(w:World)(I:NU w va la)(A:NU w vb lb)(hg:GW w)(d5 : -9223372036854775808<=ea/\ea<=9223372036854775807)(d4 : -9223372036854775808<=eb/\eb<=9223372036854775807):Ret Tryz.prog 135 [.agg [.bool na,va,.int .i64 ea].toArray,.agg [.bool nb,vb,.int .i64 eb].toArray] w λu w'=>BR w' u (cX na (val la) ea) (cX nb (val lb) eb)/\Chg [] w w':=by
 have a:=crf w;have g0:=I.one;have f9:=A.one;refine zE2 Tryz.func135 rfl ?_;refine Sr λ_ d3=>?_;refine WL.cgq rfl rfl rfl λb2 f6 j G a9=>?_;have a8:=Nat.le_trans a.size a9;have a:=a.trans G;have I:=I.q8 G;have A:=A.q8 G;refine WL.cgq rfl rfl rfl λb3 f5 i z M=>?_;have a7:=Nat.le_trans a.size M;have a:=a.trans z;have I:=I.q8 z;have A:=A.q8 z;have c2:=zdd j.lt M;have j:=j.k0 z;refine WL.iZ (l:=[.bool false,.slice none 0 0,.int .i64 0]) rfl rfl λb4 f4 b p B=>?_;have a6:=Nat.le_trans a.size B;have a:=a.trans p;have I:=I.q8 p;have A:=A.q8 p;have c1:=zdd j.lt B;have j:=j.k0 p;have b8:=zdd i.lt B;have i:=i.k0 p;refine WL.iZ (l:=[.bool false,.slice none 0 0,.int .i64 0]) rfl rfl λb5 f3 d n y=>?_;have a5:=Nat.le_trans a.size y;have a:=a.trans n;have I:=I.q8 n;have A:=A.q8 n;have b9:=zdd j.lt y;have j:=j.k0 n;have b7:=zdd i.lt y;have i:=i.k0 n;have b6:=zdd b.lt y;have b:=b.k0 n;refine za rfl (zz (d3 (Sr λ_ a0=>zf rfl (zl j rfl rfl (zf rfl (zl j rfl rfl (zf rfl (zl j rfl rfl ?_))))))));refine WL.call hasF133 rfl rfl (abx na va la ea _ I (hg.q8 a) d5) λv w1 h'=>?_;obtain ⟨d7,H⟩:=h';have a:=a.trans H;have i:=i.k0 H;have b:=b.k0 H;have d:=d.k0 H;have A:=A.q8 H;rcases d7 with ⟨r1,d1,Q,rfl,e⟩|⟨Q,rfl⟩
 ·refine zm rfl (zx rfl rfl (zx rfl rfl ?_));refine zss rfl rfl ao b rfl λe8 r m=>?_;(try simp only[qt] at r);have a:=a.s2 m;have i:=i.kq m;have d:=d.kq m;have A:=A.q9 b m an;have e:=e.q9 b m an;have b:=r;refine za rfl (zz (a0 (zc λ_ Z=>Sr λ_ d0=>zm rfl (zq rfl rfl (zz (d0 ?_))))));refine CW.nJ rfl ?_;refine zR λ_ U=>?_;refine zf rfl (zl i rfl rfl (zf rfl (zl i rfl rfl (zf rfl (zl i rfl rfl ?_)))));refine WL.call hasF133 rfl rfl (abx nb vb lb eb _ A (hg.q8 a) d4) λv w2 h'=>?_;obtain ⟨d6,J⟩:=h';have a:=a.trans J;have b:=b.k0 J;have d:=d.k0 J;have e:=e.q8 J;rcases d6 with ⟨r2,d2,O,rfl,h⟩|⟨O,rfl⟩
  ·refine zm rfl (zx rfl rfl (zx rfl rfl ?_));refine zss rfl rfl ao d rfl λe7 q o=>?_;(try simp only[qt] at q);have a:=a.s2 o;have b:=b.kq o;have e:=e.q9 d o an;have h:=h.q9 d o an;have d:=q;refine za rfl ?_;refine WL.nil (U _ _ _ (Z ?_));refine zc λ_ c9=>?_;refine CW.dhj 6 b d rfl dZ λf1 Y f g=>?_;have a:=a.trans g;have b:=b.k0 g;have d:=d.k0 g;have e:=e.q8 g;have h:=h.q8 g;refine wh 0 rfl f (λ_ k=>Ev.rZ rfl rfl k.1 rfl) (wh 1 rfl f (λ_ k=>Ev.rZ rfl rfl k.2 rfl) (wh 2 rfl f (eM rfl) ?_));refine WH.same1 3 rfl oR rfl rfl rfl ao oO f λe6 f x=>?_;have a:=a.s2 x;have e:=e.q9 b x an;have h:=h.q9 b x an;have b:=f.1;have d:=f.2;refine WH.same2 4 rfl oR rfl rfl rfl ao oO f λe5 f t=>?_;have a:=a.s2 t;have e:=e.q9 d t an;have h:=h.q9 d t an;have b:=f.1;have d:=f.2;refine wh 5 rfl f (eA rfl) ?_;refine WH.done oR (Y _ _ _ ?_);refine c9 ?_;refine zr (k9.ckq rfl (aZ.cell rfl (b.fJ rfl rfl)) (aZ.cell rfl (d.fJ rfl rfl)) (aZ.tmp rfl) ?_);exact ⟨.inl ⟨d1,d2,r1,r2,Q,O,rfl,e,h⟩,a⟩
  refine zm rfl (zx rfl rfl (zx rfl rfl ?_));refine zss rfl rfl ao d rfl λe4 q s=>?_;(try simp only[qt] at q);have a:=a.s2 s;have b:=b.kq s;have e:=e.q9 d s an;have d:=q;refine za rfl ?_;refine WL.nil (U _ _ _ (Z ?_));refine zc λ_ a4=>?_;refine CW.dhj 6 b d rfl dZ λf0 X f g=>?_;have a:=a.trans g;have b:=b.k0 g;have d:=d.k0 g;have e:=e.q8 g;refine wh 0 rfl f (λ_ k=>Ev.rZ rfl rfl k.1 rfl) (wh 1 rfl f (λ_ k=>Ev.rZ rfl rfl k.2 rfl) (wh 2 rfl f (eM rfl) ?_));refine WH.same1 3 rfl oR rfl rfl rfl ao oO f λe3 f F=>?_;have a:=a.s2 F;have e:=e.q9 b F an;have b:=f.1;have d:=f.2;refine WH.same2 4 rfl oR rfl rfl rfl ao oO f λe2 f D=>?_;have a:=a.s2 D;have e:=e.q9 d D an;have b:=f.1;have d:=f.2;refine wh 5 rfl f (eA rfl) ?_;refine WH.done oR (X _ _ _ ?_);refine a4 ?_;refine zr (k9.ckq rfl (aZ.cell rfl (b.fJ rfl rfl)) (aZ.cell rfl (d.fJ rfl rfl)) (aZ.tmp rfl) ?_);exact ⟨.inr ⟨.inr O,_,_,_,_,_,_,rfl,e.one,rfl⟩,a⟩
 refine zm rfl (zx rfl rfl (zx rfl rfl ?_));refine zss rfl rfl ao b rfl λe1 r C=>?_;(try simp only[qt] at r);have a:=a.s2 C;have d:=d.kq C;have b:=r;refine za rfl (zz (a0 (zc λ_ a3=>Sr λ_ a2=>zm rfl (zq rfl rfl (zz (a2 ?_))))));refine CW.mQ rfl ?_;refine zkk (a3 (zc λ_ a1=>?_));refine CW.dhj 6 b d rfl dZ λe9 V f g=>?_;have a:=a.trans g;have b:=b.k0 g;have d:=d.k0 g;refine wh 0 rfl f (λ_ k=>Ev.rZ rfl rfl k.1 rfl) (wh 1 rfl f (λ_ k=>Ev.rZ rfl rfl k.2 rfl) (wh 2 rfl f (eM rfl) ?_));refine WH.same1 3 rfl oR rfl rfl rfl ao oO f λe0 f T=>?_;have a:=a.s2 T;have b:=f.1;have d:=f.2;refine WH.same2 4 rfl oR rfl rfl rfl ao oO f λd9 f R=>?_;have a:=a.s2 R;have b:=f.1;have d:=f.2;refine wh 5 rfl f (eA rfl) ?_;refine WH.done oR (V _ _ _ ?_);refine a1 ?_;refine zr (k9.ckq rfl (aZ.cell rfl (b.fJ rfl rfl)) (aZ.cell rfl (d.fJ rfl rfl)) (aZ.tmp rfl) ?_);exact ⟨.inr ⟨.inl Q,_,_,_,_,_,_,rfl,rfl,rfl⟩,a⟩
structure KA2(X Y:List Nat)(w:World)(b:Nat)(g:Nat×List Nat×Nat)(wr:World):Prop where
  a:dzx X Y g.1 g.2.1 g.2.2
  ob:OB wr b 162 g.2.1
  chg:Chg [] w wr
theorem dsum_spec(va vb:Value)(s r:List Nat)(w:World)(ha:NU w va s)(hb:NU w vb r)(e3:s.length<70368744177664)(e2:r.length<70368744177664):Ret Tryz.prog 168 [va,vb] w λu w'=>∃ L,NU w' u L/\val L=val s+val r/\Chg [] w w':=by
 obtain ⟨⟨a1,c1,rfl,b7,a3⟩,a7,e5⟩:=ha;obtain ⟨⟨a2,c2,rfl,b6,a0⟩,a6,e4⟩:=hb;have a:=crf w;refine zE2 Tryz.func168 rfl ?_;refine Sr λ_ b5=>za rfl (zz (b5 ?_));refine CW.anj (λD s' w'=>D=[]/\w=w'/\∃ xa ca xb cb X Y,RW w xa (X.map kZ)/\W X/\RW w xb (Y.map kZ)/\W Y/\Y.length<=X.length/\X.length<70368744177664/\val X+val Y=val s+val r/\j0 [(0,.slice xa X.length ca),(1,.slice xb Y.length cb)] s') ?_ ?_
 ·refine Sr λ_ b4=>zm rfl (zn rfl (zm rfl (zn rfl (zL rfl rfl (zz (b4 ?_))))));refine zy rfl ?_ ?_<;>intro c3<;>try simp only[qs] at c3
  ·refine zS λ_ b1=>zm rfl (zm rfl (za rfl (za rfl (zz (b1 ?_)))));exact ⟨rfl,rfl,a2,c2,a1,c1,r,s,a0,a6,a3,a7,by omega,by omega,by omega,(by repeat (first|exact j0.nil|refine j0.cons rfl ?_))⟩
  refine zkk ?_;exact ⟨rfl,rfl,a1,c1,a2,c2,s,r,a3,a7,a0,a6,by omega,by omega,rfl,(by repeat (first|exact j0.nil|refine j0.cons rfl ?_))⟩
 rintro _ s' _ ⟨rfl,rfl,xa,ca,xb,cb,X,Y,j,f,Z,h,c4,f0,c5,V⟩;refine CW.sub V ?_;refine Sr λ_ b3=>zm rfl (zn rfl ?_);(first|refine zi rfl rfl ?_|refine zo rfl rfl ?_);refine WL.bcq (((X).length+1)) (((X).length+1)) rfl rfl oO oO oO oO oO rfl λa8 d3 b q m=>?_;have t:=Nat.le_trans a.size m;have a:=a.trans q;refine za rfl (zz (b3 (Sr λ_ b2=>za rfl (zz (b2 (zc λ_ R=>Sr λ_ Q=>zm rfl (zn rfl (zm rfl (zz (Q (CW.block ?_)))))))))));refine CW.loop (S:=λg:Nat×List Nat×Nat=>[(0,.slice xa X.length ca),(1,.slice xb Y.length cb),(5,.slice (some ⟨a8,0,none⟩) (X.length+1) (X.length+1)),(6,.int .u32 (g.2.2:Int)),(21,.int .i64 (X.length:Int)),(22,.int .i64 (g.1:Int))]) (Inv:=KA2 X Y w a8) (mu:=λg=>X.length-g.1) ((0,List.replicate (X.length+1) 0,0)) ?_ ?_ ?_
 ·exact ⟨dzx.zero oS (oJ _),b,a⟩
 ·exact SLp
 rintro ⟨i,L,c⟩ wr ⟨e,b,a⟩;dsimp only at e b a;have e6:=e.le;have f1:=e.len;have e7:=e.c1;refine Sr λ_ O=>zL rfl rfl (zz (O (zc λ_ M=>?_)));refine zy rfl ?_ ?_<;>intro b9<;>try simp only[qs] at b9
 ·refine zkk (M (zc λ_ l=>CW.block (Sr λ_ J=>zm rfl (za rfl (zz (J (Sr λ_ I=>za rfl (zz (I (zc λ_ k=>Sr λ_ H=>zm rfl (zm rfl (zn rfl (zL rfl rfl (zz (H ?_)))))))))))))));refine zy rfl ?_ ?_<;>intro b8<;>try simp only[qs] at b8
  ·refine zR λ_ C=>?_
   refine zm rfl (zm rfl ?_);refine WL.ev (Ev.ixR (i) rfl rfl (Z.q8 a) oO oO oT) rfl ?_;refine WL.ev (Ev.load rfl rfl ((Z.q8 a).u32 oF)) rfl ?_;have d7:=h.getD (i);refine za rfl ?_;refine WL.nil (C _ _ _ (k ?_));refine zR λ_ B=>?_;refine zm rfl (zm rfl (zm rfl (zm rfl ?_)));refine WL.ev (Ev.ixR (i) rfl rfl (j.q8 a) oO oO oT) rfl ?_;refine WL.ev (Ev.load rfl rfl ((j.q8 a).u32 oF)) rfl ?_;have T:=f.getD (i);refine zm rfl (zm rfl ?_);refine WL.call hasF229 rfl rfl (bvj (X.getD i 0) (Y.getD i 0) c _ (f.getD i) (h.getD i) oO) λv w1 h'=>?_;obtain ⟨rfl,rfl⟩:=h';refine zm rfl (zx rfl rfl (zx rfl rfl ?_));refine WL.ev (Ev.ixB (i) rfl rfl oO oO) rfl ?_;refine WL.tQ rfl rfl b oF λd2 d p=>?_;have a:=a.s2 p;have b:=d;refine za rfl ?_;refine WL.nil (B _ _ _ (l ?_));refine zS λ_ A=>?_;(first|refine zi rfl rfl ?_|refine zo rfl rfl ?_);refine zm rfl (zz (A ?_));refine ⟨rfl,(i+1,L.set i ((X.getD i 0+Y.getD i 0+c)%4294967296),(X.getD i 0+Y.getD i 0+c)/4294967296),?_,?_,?_⟩
   ·exact SLp
   ·exact ⟨e.step f h oO,b,a⟩
   show X.length-(i+1)<X.length-i;omega
  have e0:Value.int IntKind.u32 0=Value.int IntKind.u32 ((Y.getD i 0:Nat):Int):=by rw[aaj oO];rfl
  rw[e0];refine zkk (k ?_);refine zR λ_ z=>?_;refine zm rfl (zm rfl (zm rfl (zm rfl ?_)));refine WL.ev (Ev.ixR (i) rfl rfl (j.q8 a) oO oO oT) rfl ?_;refine WL.ev (Ev.load rfl rfl ((j.q8 a).u32 oF)) rfl ?_;have T:=f.getD (i);refine zm rfl (zm rfl ?_);refine WL.call hasF229 rfl rfl (bvj (X.getD i 0) (Y.getD i 0) c _ (f.getD i) (h.getD i) oO) λv w2 h'=>?_;obtain ⟨rfl,rfl⟩:=h';refine zm rfl (zx rfl rfl (zx rfl rfl ?_));refine WL.ev (Ev.ixB (i) rfl rfl oO oO) rfl ?_;refine WL.tQ rfl rfl b oF λd1 d o=>?_;have a:=a.s2 o;have b:=d;refine za rfl ?_;refine WL.nil (z _ _ _ (l ?_));refine zS λ_ y=>?_;(first|refine zi rfl rfl ?_|refine zo rfl rfl ?_);refine zm rfl (zz (y ?_));refine ⟨rfl,(i+1,L.set i ((X.getD i 0+Y.getD i 0+c)%4294967296),(X.getD i 0+Y.getD i 0+c)/4294967296),?_,?_,?_⟩
  ·exact SLp
  ·exact ⟨e.step f h oO,b,a⟩
  show X.length-(i+1)<X.length-i;omega
 refine CW.exit ?_;refine R (zc λ_ G=>?_);have a5:i=X.length:=by omega
 subst a5;obtain ⟨U,c6,a4⟩:=e.done c4;rw[c5] at U;refine zR λ_ x=>?_;refine zm rfl (zm rfl (zn rfl (zm rfl ?_)));refine WL.ev (Ev.ixB (X.length) rfl rfl oO oO) rfl ?_;refine WL.tQ rfl rfl b oF λd0 d n=>?_;have a:=a.s2 n;have b:=d;refine WL.nil (x _ _ _ (G ?_));refine Sr λ_ F=>zm rfl (za rfl (zz (F ?_)));refine zr (zr1 rfl rfl ?_);exact ⟨_,NU.nX b c6 (by rw[a4];omega) (by rw[a4]) (Nat.le_refl _),U,a⟩
end
end Go.Proofs.YtomlallhlakhfaaGreatDoor