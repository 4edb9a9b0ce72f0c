/- Part 2 of what the proof rests on. No condition. -/
import Derived.Test.YtomlallhlakhfaaGreatDoorZd1
set_option linter.unusedVariables false
set_option linter.unusedSimpArgs false
set_option maxRecDepth 100000
set_option maxHeartbeats 4000000
namespace Go.Proofs.YtomlallhlakhfaaGreatDoor
section
open Go Sx Wd
theorem b0j{x k:Nat}(h:2^k<=x):bl x=k+bl (x/2^k):=by
  have a:=Nat.two_pow_pos k
  have b:x/2^k≠0:=Nat.ne_of_gt (Nat.div_pos h a)
  have c:=bjq b
  refine cwj ?_ (.inr ?_)
  · have:=cbq (x/2^k)
    rw[Nat.div_lt_iff_lt_mul a] at this
    rwa [Nat.pow_add,Nat.mul_comm]
  · have:=cxx b
    rw[Nat.le_div_iff_mul_le a] at this
    rw[show k+bl (x/2^k)-1=(bl (x/2^k)-1)+k by omega,Nat.pow_add]
    exact this
def lenTab(bs:ByteArray):Prop:=∀ i,i<256->bs[i]?=some (UInt8.ofNat (bl i))
theorem b6x{a:ByteArray}(h:((List.range 256).all λi=>a[i]?==some (UInt8.ofNat (bl i)))=true):lenTab a:=λi hi=>by
  have:=List.all_eq_true.1 h i (List.mem_range.2 hi)
  simpa using this
theorem bl_u8{i:Nat}(h:i<256):((UInt8.ofNat (bl i)).toNat:Int)=(bl i:Int):=by
  have:bl i<=8:=uJ.2 oO
  simp[UInt8.toNat_ofNat']
  omega
theorem Len32_spec(x:Nat)(w:World)(h:x<4294967296):Ret Tryz.prog 213 [.int .u32 (x:Int)] w λu w'=>u = .int .i64 (bl x:Int)/\w=w':=by
 refine zE1 Tryz.func213 rfl ?_;refine Sr λ_ y=>za rfl (zz (y (zc λ_ g=>Sr λ_ v=>zm rfl ?_)));refine WL.ev (Ev.geq rfl rfl) rfl ?_;refine zz (v ?_);refine zy rfl ?_ ?_<;>intro B<;>try simp only[qs] at B
 ·refine Sr λ_ t=>zm rfl ?_
  refine WL.ev (Ev.atx (b:=16) rfl rfl (by simp only[IntKind.bits];omega)) rfl ?_;refine za rfl (zz (t ?_));refine zR λ_ s=>?_;refine za rfl ?_;refine WL.nil (s _ _ _ (g ?_));refine zc λ_ f=>Sr λ_ r=>zm rfl ?_;refine WL.ev (Ev.geq rfl rfl) rfl ?_;refine zz (r ?_);refine zy rfl ?_ ?_<;>intro A<;>try simp only[qs] at A
  ·have C:=b0j (x:=x) (k:=16) oO;have D:=b0j (x:=x/2^16) (k:=8) oO;refine Sr λ_ q=>zm rfl ?_
   refine WL.ev (Ev.atx (b:=8) rfl rfl (by simp only[IntKind.bits];omega)) rfl ?_;refine za rfl (zz (q ?_));refine zR λ_ e=>?_;refine zm rfl ?_;refine WL.ev (Ev.jZ rfl rfl oO) rfl ?_;refine za rfl ?_;refine WL.nil (e _ _ _ (f ?_));refine Sr λ_ p=>zm rfl (zm rfl ?_);refine WL.ev (Ev.d9q rfl rfl) rfl ?_;rw[Nat.mod_eq_of_lt oO];refine WL.ev (Ev.indexS rfl rfl ((b6x (by decide +kernel)) _ oO)) rfl ?_;rw[bl_u8 oO];have c:=uJ (n:=x/2^16/2^8) (k:=8);refine WL.ev (Ev.dZ rfl rfl (tQ oO)) rfl ?_;refine WL.ev (Ev.jZ rfl rfl oO) rfl ?_;refine za rfl (zz (p ?_));refine zr (zr1 rfl rfl ?_);refine ⟨?_,rfl⟩
   first|rfl|(congr 1;omega)
  have C:=b0j (x:=x) (k:=16) oO;refine zkk (f (Sr λ_ o=>zm rfl (zm rfl ?_)));refine WL.ev (Ev.d9q rfl rfl) rfl ?_;rw[Nat.mod_eq_of_lt oO];refine WL.ev (Ev.indexS rfl rfl ((b6x (by decide +kernel)) _ oO)) rfl ?_;rw[bl_u8 oO];have c:=uJ (n:=x/2^16) (k:=8);refine WL.ev (Ev.dZ rfl rfl (tQ oO)) rfl ?_;refine WL.ev (Ev.jZ rfl rfl oO) rfl ?_;refine za rfl (zz (o ?_));refine zr (zr1 rfl rfl ?_);refine ⟨?_,rfl⟩
  first|rfl|(congr 1;omega)
 refine zkk (g (zc λ_ a=>Sr λ_ m=>zm rfl ?_));refine WL.ev (Ev.geq rfl rfl) rfl ?_;refine zz (m ?_);refine zy rfl ?_ ?_<;>intro z<;>try simp only[qs] at z
 ·have C:=b0j (x:=x) (k:=8) oO;refine Sr λ_ l=>zm rfl ?_
  refine WL.ev (Ev.atx (b:=8) rfl rfl (by simp only[IntKind.bits];omega)) rfl ?_;refine za rfl (zz (l ?_));refine zR λ_ d=>?_;refine zm rfl ?_;refine WL.ev (Ev.jZ rfl rfl oO) rfl ?_;refine za rfl ?_;refine WL.nil (d _ _ _ (a ?_));refine Sr λ_ j=>zm rfl (zm rfl ?_);refine WL.ev (Ev.d9q rfl rfl) rfl ?_;rw[Nat.mod_eq_of_lt oO];refine WL.ev (Ev.indexS rfl rfl ((b6x (by decide +kernel)) _ oO)) rfl ?_;rw[bl_u8 oO];have c:=uJ (n:=x/2^8) (k:=8);refine WL.ev (Ev.dZ rfl rfl (tQ oO)) rfl ?_;refine WL.ev (Ev.jZ rfl rfl oO) rfl ?_;refine za rfl (zz (j ?_));refine zr (zr1 rfl rfl ?_);refine ⟨?_,rfl⟩
  first|rfl|(congr 1;omega)
 refine zkk (a (Sr λ_ i=>zm rfl (zm rfl ?_)));refine WL.ev (Ev.d9q rfl rfl) rfl ?_;rw[Nat.mod_eq_of_lt oO];refine WL.ev (Ev.indexS rfl rfl ((b6x (by decide +kernel)) _ oO)) rfl ?_;rw[bl_u8 oO];have c:=uJ (n:=x) (k:=8);refine WL.ev (Ev.dZ rfl rfl (tQ oO)) rfl ?_;refine WL.ev (Ev.jZ rfl rfl oO) rfl ?_;refine za rfl (zz (i ?_));refine zr (zr1 rfl rfl ?_);refine ⟨?_,rfl⟩
 first|rfl|(congr 1;omega)
theorem btj(x y c:Nat)(w:World)(i:x<4294967296)(h:y<4294967296)(g:c<4294967296):Ret Tryz.prog 229 [.int .u32 (x:Int),.int .u32 (y:Int),.int .u32 (c:Int)] w λu w'=>u = .tuple [.int .u32 (((x+y+c)%4294967296:Nat):Int),.int .u32 (((x+y+c)/4294967296:Nat):Int)].toArray/\w=w':=by
 refine zE3 Tryz.func229 rfl ?_;refine Sr λ_ f=>za rfl (za rfl (zz (f (Sr λ_ e=>zm rfl ?_))));refine WL.ev (Ev.dZ rfl rfl (iZ oO)) rfl ?_;refine zm rfl ?_;refine WL.ev (Ev.dZ rfl rfl (iZ oO)) rfl ?_
 first|refine WL.ev (Ev.iX rfl rfl oO) rfl ?_|refine WL.ev (Ev.aaq rfl rfl) rfl ?_
 refine zm rfl ?_;refine WL.ev (Ev.dZ rfl rfl (iZ oO)) rfl ?_
 first|refine WL.ev (Ev.iX rfl rfl oO) rfl ?_|refine WL.ev (Ev.aaq rfl rfl) rfl ?_
 refine za rfl (zz (e (Sr λ_ d=>zm rfl ?_)));refine WL.ev (Ev.tZ rfl rfl) rfl ?_;refine za rfl (zz (d (Sr λ_ a=>zm rfl ?_)));refine WL.ev (Ev.atx (b:=32) rfl rfl (by simp only[IntKind.bits];omega)) rfl ?_;refine WL.ev (Ev.tZ rfl rfl) rfl ?_;refine za rfl (zz (a ?_));refine zr (zr2 rfl rfl rfl ?_);rw[show (x+y+c)/2^32%4294967296=(x+y+c)/4294967296 by omega];exact ⟨rfl,rfl⟩
theorem top31{n:Nat}(h:n<4294967296):n/2^31=if n.testBit 31 then 1 else 0:=by
  rw[Nat.testBit_eq_decide_div_mod_eq]
  have:n/2^31<2:=by omega
  split
  · rename_i h1;have:=of_decide_eq_true h1;omega
  · rename_i h1;simp at h1;omega
theorem bit31{n:Nat}(h:n<4294967296):n.testBit 31=decide (2147483648<=n):=by
  rw[Nat.testBit_eq_decide_div_mod_eq]
  refine decide_eq_decide.2 ?_
  omega
theorem not31{n:Nat}(h:n<4294967296):(4294967296-1-n).testBit 31 = !n.testBit 31:=by
  rw[bit31 h,bit31 oO]
  by_cases h1:2147483648<=n
  · rw[decide_eq_true h1,decide_eq_false oO];rfl
  · rw[decide_eq_false h1,decide_eq_true oO];rfl
theorem borrow32{x y c d:Nat}(g:x<4294967296)(f:y<4294967296)(m:c<=1)(l:d=(x+8589934592-y-c)%4294967296):(((4294967296-1-x)&&& y)||| ((4294967296-1-(x ^^^ y))&&& d))/2^31=if x<y+c then 1 else 0:=by
  have k:x ^^^ y<4294967296:=Nat.xor_lt_two_pow (n:=32) g f
  have h:d<4294967296:=by omega
  have j:((4294967296-1-x)&&& y)<4294967296:=Nat.and_lt_two_pow (n:=32) _ f
  have i:((4294967296-1-(x ^^^ y))&&& d)<4294967296:=Nat.and_lt_two_pow (n:=32) _ h
  rw[top31 (Nat.or_lt_two_pow (n:=32) j i)]
  rw[Nat.testBit_or,Nat.testBit_and,Nat.testBit_and,not31 g,not31 k,Nat.testBit_xor,bit31 g,bit31 f,bit31 h]
  by_cases a:2147483648<=x<;>by_cases b:2147483648<=y<;>by_cases e:2147483648<=d<;>simp[a,b,e]<;>omega
theorem low_bit{x k:Nat}(c:0<x)(h:x<2^k):x&&& (2^k-x)=2^tz x:=by
  obtain ⟨a,b⟩:=akx (Nat.ne_of_gt c)
  have d:tz x<k:=by
    have:=yJ (Nat.ne_of_gt c)
    have:=uJ.2 h
    omega
  generalize tz x=t at *
  generalize x/2^t=q at *
  subst b
  have l:q<2^(k-t):=by
    have:q*2^t<2^(k-t)*2^t:=by rw[<- Nat.pow_add,show k-t+t=k by omega];exact h
    exact Nat.lt_of_mul_lt_mul_right this
  have j:2^k-q*2^t=(2^(k-t)-q)*2^t:=by rw[Nat.sub_mul,<- Nat.pow_add,show k-t+t=k by omega]
  rw[j,<- Nat.shiftLeft_eq,<- Nat.shiftLeft_eq,<- Nat.shiftLeft_and_distrib]
  have g:q&&& (2^(k-t)-q)=1:=by
    obtain ⟨m,rfl⟩ : ∃ m,q=m+1:=⟨q-1,by omega⟩
    apply Nat.eq_of_testBit_eq
    intro i
    rw[Nat.testBit_and,Nat.testBit_two_pow_sub_succ oO]
    have n:m%2=0:=by omega
    cases i with
    | zero=>simp;omega
    | succ i=>
      have f:(m+1).testBit (i+1)=m.testBit (i+1):=by
        rw[Nat.testBit_succ,Nat.testBit_succ]
        congr 1
        omega
      have e:(1:Nat).testBit (i+1)=false:=by rw[Nat.testBit_succ];simp
      rw[f,e]
      cases m.testBit (i+1)<;>simp
  rw[g,Nat.shiftLeft_eq,Nat.one_mul]
def deb:List Nat:=[0,1,28,2,29,14,24,3,30,22,20,15,25,17,4,8,31,27,13,23,21,19,16,7,26,12,18,6,11,5,10,9]
def GW(w:World):Prop:=∀ i,i<32->w.cell? ⟨6,i,none⟩=some (.int .u8 ((deb.getD i 0:Nat):Int))
theorem GW.gZ{w w':World}{T:List Nat}(h:GW w)(a:Chg T w w')(hT : ∀ b∈T,w.heap.size<=b):GW w':=λi hi=>a.cell (h i hi) λhm=>by
  have:=hT _ hm
  have:=block_lt_of_cell (h i hi)
  dsimp only at *
  omega
theorem GW.q5{w w':World}(h:GW w)(a:Chg [] w w'):GW w':=h.gZ a oS
theorem deb_all:((List.range 32).all λt=>deb.getD (2^t*125613361%4294967296/2^27) 0==t)=true:=by decide +kernel
theorem deb_ok{t:Nat}(h:t<32):deb.getD (2^t*125613361%4294967296/2^27) 0=t:=by
  have:=List.all_eq_true.1 deb_all t (List.mem_range.2 h)
  simpa using this
theorem duj(x y c:Nat)(w:World)(h:x<4294967296)(d:y<4294967296)(k:c<=1):Ret Tryz.prog 255 [.int .u32 (x:Int),.int .u32 (y:Int),.int .u32 (c:Int)] w λu w'=>u = .tuple [.int .u32 (((x+8589934592-y-c)%4294967296:Nat):Int),.int .u32 ((if x<y+c then 1 else 0:Nat):Int)].toArray/\w=w':=by
 refine zE3 Tryz.func255 rfl ?_;refine Sr λ_ g=>za rfl (za rfl (zz (g (Sr λ_ f=>zm rfl (zm rfl ?_)))));refine WL.ev (Ev.sub32 rfl rfl oO) rfl ?_;refine zm rfl ?_;refine WL.ev (Ev.sub32 rfl rfl oO) rfl ?_;rw[show ((x+(4294967296-y))%4294967296+(4294967296-c))%4294967296=(x+8589934592-y-c)%4294967296 by omega];obtain ⟨i,a⟩ : ∃ i,i=(x+8589934592-y-c)%4294967296:=⟨_,rfl⟩;rw[<- a];have j:x ^^^ y<4294967296:=Nat.xor_lt_two_pow (n:=32) h d;refine za rfl (zz (f (Sr λ_ e=>zm rfl ?_)));refine WL.ev (Ev.complU rfl rfl (by simp only[IntKind.bits];omega)) rfl ?_;refine zm rfl ?_;refine WL.ev (Ev.andU rfl rfl rfl (by simp only[IntKind.bits];omega) (by simp only[IntKind.bits];omega)) rfl ?_;refine zm rfl (zm rfl ?_);refine WL.ev (Ev.xorU rfl rfl rfl (by simp only[IntKind.bits];omega) (by simp only[IntKind.bits];omega)) rfl ?_;refine WL.ev (Ev.complU rfl rfl (by simp only[IntKind.bits];omega)) rfl ?_;refine zm rfl ?_;refine WL.ev (Ev.andU rfl rfl rfl (by simp only[IntKind.bits];omega) (by simp only[IntKind.bits];omega)) rfl ?_;refine WL.ev (Ev.orU rfl rfl rfl (Nat.and_lt_two_pow _ d) (Nat.and_lt_two_pow _ (by simp only[IntKind.bits];omega))) rfl ?_;refine WL.ev (Ev.atx (b:=31) rfl rfl (Nat.or_lt_two_pow (Nat.and_lt_two_pow _ d) (Nat.and_lt_two_pow _ (by simp only[IntKind.bits];omega)))) rfl ?_;simp only[IntKind.bits];rw[show (2:Nat)^32=4294967296 from rfl,borrow32 h d k a];refine za rfl (zz (e ?_));refine zr (zr2 rfl rfl rfl ?_);rw[a];exact ⟨rfl,rfl⟩
theorem b1q(x:Nat)(w:World)(l:GW w)(m:x≠0)(i:x<4294967296):Ret Tryz.prog 249 [.int .u32 (x:Int)] w λu w'=>u = .int .i64 (tz x:Int)/\w=w':=by
 have g:tz x<32:=Nat.lt_of_lt_of_le (yJ m) (uJ.2 oO);have j:2^tz x<4294967296:=Nat.lt_of_le_of_lt (by rw[<- low_bit (k:=32) oO i];exact Nat.and_le_left) i;refine zE1 Tryz.func249 rfl ?_;refine Sr λ_ f=>za rfl (zz (f (zc λ_ e=>Sr λ_ d=>zm rfl (zq rfl rfl (zz (d ?_))))));refine zy rfl ?_ ?_<;>intro a<;>try simp only[qs] at a
 ·exact absurd a oO
 refine zkk (e (Sr λ_ c=>zm rfl (zm rfl ?_)));refine WL.ev (Ev.neg rfl) rfl ?_;rw[d1x,show (0-(x:Int))%4294967296=((2^32-x:Nat):Int) by omega];refine WL.ev (Ev.andU rfl rfl rfl (by simp only[IntKind.bits];omega) (by simp only[IntKind.bits];omega)) rfl ?_;rw[low_bit oO oO];refine WL.ev (Ev.mul32 (b:=125613361) rfl rfl) rfl ?_;refine WL.ev (Ev.atx (b:=27) rfl rfl (by simp only[IntKind.bits];omega)) rfl ?_;have h:2^tz x*125613361%4294967296/2^27<32:=by omega
 refine WL.ev (Ev.indexAddrArr rfl rfl oO oO) rfl ?_;rw[show 0+((2^tz x*125613361%4294967296/2^27:Nat):Int).toNat*1=2^tz x*125613361%4294967296/2^27 by omega];refine WL.ev (Ev.load rfl rfl (l _ h)) rfl ?_;rw[deb_ok g];refine WL.ev (Ev.dZ rfl rfl (tQ oO)) rfl ?_;refine za rfl (zz (c ?_));refine zr (zr1 rfl rfl ?_);exact ⟨rfl,rfl⟩
end
namespace Wd
theorem yQ{l:List Nat}{i x:Nat}(h:i<l.length):(l.set i x).getD i 0=x:=by
  rw[List.getD_eq_getElem?_getD,List.getElem?_set,if_pos rfl,if_pos h];rfl
theorem getD_set_ne{l:List Nat}{i j x:Nat}(h:i≠j):(l.set i x).getD j 0=l.getD j 0:=by
  rw[List.getD_eq_getElem?_getD,List.getElem?_set,if_neg h,<- List.getD_eq_getElem?_getD]
theorem c4x{l:List Nat}{i:Nat}(h:i<l.length)(x:Nat):val (l.set i x)+2^(32*i)*l.getD i 0=val l+2^(32*i)*x:=by
  induction l generalizing i with
  | nil=>simp at h
  | cons y l ih=>
    cases i with
    | zero=>simp[val];omega
    | succ i=>
      have:=ih (i:=i) (by simpa using h)
      simp only[List.set_cons_succ,val,List.getD_cons_succ]
      rw[show 32*(i+1)=32+32*i by omega,Nat.pow_add,Nat.mul_assoc,Nat.mul_assoc]
      have e:(2:Nat)^32=4294967296:=by decide
      rw[e];omega
theorem bcj{l:List Nat}{i k x:Nat}(h:k<=i):(l.set i x).take k=l.take k:=by
  rw[List.take_set_of_le h]
theorem gQ(l:List Nat)(i:Nat):val (l.take (i+1))=val (l.take i)+2^(32*i)*l.getD i 0:=by
  by_cases h:i<l.length
  · exact amq h
  · rw[zJ oO,List.take_of_length_le oO,List.take_of_length_le oO];simp
theorem avj(k j:Nat):(List.replicate k 0).getD j 0=0:=by
  rw[List.getD_eq_getElem?_getD,List.getElem?_replicate];split<;>rfl
theorem two32(i:Nat):2^(32*(i+1))=2^(32*i)*4294967296:=by
  rw[show 32*(i+1)=32*i+32 by omega,Nat.pow_add]
structure dxx(la lb:List Nat)(i:Nat)(L:List Nat)(c:Nat):Prop where
  le:i<=la.length
  len:L.length=la.length+1
  w:W L
  c1:c<=1
  v:val (L.take i)+2^(32*i)*c=val (la.take i)+val (lb.take i)
theorem dxx.zero{a b L:List Nat}(d:L.length=a.length+1)(c:W L):dxx a b 0 L 0:=⟨Nat.zero_le _,d,c,by omega,by simp[val]⟩
theorem dxx.step{a b L:List Nat}{i c:Nat}(h:dxx a b i L c)(f:W a)(d:W b)(k:i<a.length):dxx a b (i+1) (L.set i ((a.getD i 0+b.getD i 0+c)%4294967296)) ((a.getD i 0+b.getD i 0+c)/4294967296):=by
  have n:=f.getD i
  have m:=d.getD i
  have l:=h.c1
  have j:=h.len
  refine ⟨by omega,by simp[h.len],h.w.set _ oO,by omega,?_⟩
  rw[gQ (L.set _ _),gQ a,gQ b,bcj (Nat.le_refl _),yQ oO,two32]
  have g:=h.v
  generalize a.getD i 0=x at *
  generalize b.getD i 0=y at *
  generalize 2^(32*i)=p at *
  have e:p*((x+y+c)%4294967296)+p*4294967296*((x+y+c)/4294967296)=p*x+p*y+p*c:=by
    rw[Nat.mul_assoc,<- Nat.mul_add,Nat.mod_add_div,Nat.mul_add,Nat.mul_add]
  omega
theorem dxx.done{a b L:List Nat}{c:Nat}(h:dxx a b a.length L c)(d:b.length<=a.length):val (L.set a.length c)=val a+val b/\W (L.set a.length c)/\(L.set a.length c).length=a.length+1:=by
  have g:=h.len
  have f:=h.v
  rw[List.take_length,List.take_of_length_le d] at f
  refine ⟨?_,h.w.set _ (by have:=h.c1;omega),by simp[g]⟩
  have e:L.set a.length c=(L.set a.length c).take (a.length+1):=by rw[List.take_of_length_le (by simp[g])]
  rw[e,gQ,bcj (Nat.le_refl _),yQ oO]
  exact f
structure duq(la lb:List Nat)(i:Nat)(L:List Nat)(c:Nat):Prop where
  le:i<=la.length
  len:L.length=la.length
  w:W L
  c1:c<=1
  v:val (L.take i)+val (lb.take i)=val (la.take i)+2^(32*i)*c
theorem duq.zero{a b L:List Nat}(d:L.length=a.length)(c:W L):duq a b 0 L 0:=⟨Nat.zero_le _,d,c,by omega,by simp[val]⟩
theorem duq.step{a b L:List Nat}{i c:Nat}(h:duq a b i L c)(f:W a)(d:W b)(l:i<a.length):duq a b (i+1) (L.set i ((a.getD i 0+8589934592-b.getD i 0-c)%4294967296)) (if a.getD i 0<b.getD i 0+c then 1 else 0):=by
  have o:=f.getD i
  have n:=d.getD i
  have m:=h.c1
  have k:=h.len
  refine ⟨by omega,by simp[h.len],h.w.set _ oO,by split<;>omega,?_⟩
  rw[gQ (L.set _ _),gQ a,gQ b,bcj (Nat.le_refl _),yQ oO,two32]
  have j:=h.v
  generalize a.getD i 0=x at *
  generalize b.getD i 0=y at *
  generalize 2^(32*i)=p at *
  split
  · rename_i hlt
    have e:(x+8589934592-y-c)%4294967296=x+4294967296-y-c:=by omega
    have g:p*(x+4294967296-y-c)+p*y+p*c=p*x+p*4294967296:=by
      rw[<- Nat.mul_add,<- Nat.mul_add,<- Nat.mul_add];congr 1;omega
    rw[e];omega
  · rename_i hlt
    have e:(x+8589934592-y-c)%4294967296=x-y-c:=by omega
    have g:p*(x-y-c)+p*y+p*c=p*x:=by
      rw[<- Nat.mul_add,<- Nat.mul_add];congr 1;omega
    rw[e];omega
theorem duq.done{b a L:List Nat}{c:Nat}(h:duq b a b.length L c)(g:W b)(d:W a)(f:val a<=val b):val L=val b-val a:=by
  have e:=h.v
  rw[List.take_length,List.take_of_length_le (by rw[h.len];exact Nat.le_refl _)] at e
  have m:val (a.take b.length)<=val a:=by
    by_cases q:b.length<=a.length
    · rw[cij d _ q];exact Nat.mod_le _ _
    · rw[List.take_of_length_le oO];exact Nat.le_refl _
  have i:=vX h.w
  rw[h.len] at i
  have l:=vX g
  have k:val (a.take b.length)=val a:=by
    by_cases q:b.length<=a.length
    · rw[cij d _ q,Nat.mod_eq_of_lt oO]
    · rw[List.take_of_length_le oO]
  have j:=h.c1
  have:c=0:=by
    rcases (by omega:c=0\/c=1) with rfl|rfl
    · rfl
    · omega
  subst this
  omega
structure UpI(l:List Nat)(s:Nat)(i:Nat)(L:List Nat):Prop where
  le:i<=l.length
  len:L.length=l.length+1
  w:W L
  lo:L.getD i 0<2^s
  hi : ∀ j,i<j->L.getD j 0=0
  v:val L=val (l.take i)*2^s
theorem UpI.zero(l:List Nat)(s:Nat):UpI l s 0 (List.replicate (l.length+1) 0):=⟨Nat.zero_le _,by simp,oZ _,by rw[avj];exact Nat.two_pow_pos _,λj _=>avj _ _,by rw[agx];simp[val]⟩
theorem agj{x y s:Nat}(a:x<2^s):x||| (y*2^s)=x+y*2^s:=by
  have:=Nat.two_pow_add_eq_or_of_lt a y
  rw[Nat.or_comm,Nat.mul_comm y,<- this,Nat.add_comm]
theorem UpI.step{l L:List Nat}{s i:Nat}(h:UpI l s i L)(z:s<32)(k:W l)(hi:i<l.length):
    L.getD i 0||| (l.getD i 0*2^s%18446744073709551616%4294967296)<4294967296/\
    UpI l s (i+1) ((L.set i (L.getD i 0||| (l.getD i 0*2^s%18446744073709551616%4294967296))).set (i+1) (l.getD i 0*2^s%18446744073709551616/2^32%4294967296)):=by
  have x:=k.getD i
  have a:=h.len
  have b:=h.lo
  have A:2^s<=2147483648:=by
    have:=Nat.pow_le_pow_right (n:=2) oD (show s<=31 by omega)
    rwa [show (2:Nat)^31=2147483648 by decide] at this
  have g:=Nat.two_pow_pos s
  have B:l.getD i 0*2^s<=4294967295*2^s:=Nat.mul_le_mul_right _ oO
  have u:l.getD i 0*2^s%18446744073709551616=l.getD i 0*2^s:=Nat.mod_eq_of_lt oO
  have d:l.getD i 0*2^s%4294967296=(l.getD i 0%2^(32-s))*2^s:=by
    have:(4294967296:Nat)=2^(32-s)*2^s:=by rw[<- Nat.pow_add,show 32-s+s=32 by omega]
    rw[this,Nat.mul_mod_mul_right]
  have r:L.getD i 0||| (l.getD i 0*2^s%4294967296)=L.getD i 0+l.getD i 0*2^s%4294967296:=by
    rw[d,agj b]
  have e:L.getD i 0+l.getD i 0*2^s%4294967296<4294967296:=by
    have o:l.getD i 0%2^(32-s)+1<=2^(32-s):=Nat.mod_lt _ (Nat.two_pow_pos _)
    have m:=Nat.mul_le_mul_right (2^s) o
    rw[<- Nat.pow_add,show 32-s+s=32 by omega,Nat.add_mul,Nat.one_mul] at m
    rw[d]
    have:(2:Nat)^32=4294967296:=by decide
    omega
  have q:l.getD i 0*2^s/2^32%4294967296=l.getD i 0*2^s/4294967296:=by
    have:(2:Nat)^32=4294967296:=by decide
    rw[this];omega
  rw[u,r,q]
  refine ⟨e,by omega,by simp[a],(h.w.set _ e).set _ oO,?_,λj C=>?_,?_⟩
  · rw[yQ oT,Nat.div_lt_iff_lt_mul oD]
    calc l.getD i 0*2^s<4294967296*2^s:=by omega
      _=2^s*4294967296:=Nat.mul_comm _ _
  · rw[getD_set_ne oO,getD_set_ne oO];exact h.hi j oO
  · have c:=c4x (l:=L.set i (L.getD i 0+l.getD i 0*2^s%4294967296)) (i:=i+1) oT (l.getD i 0*2^s/4294967296)
    have f:=c4x (l:=L) (i:=i) oO (L.getD i 0+l.getD i 0*2^s%4294967296)
    rw[getD_set_ne oO,h.hi (i+1) oO,Nat.mul_zero,Nat.add_zero] at c
    have y:=h.v
    rw[gQ l i,Nat.add_mul,c,two32,Nat.mul_assoc]
    rw[Nat.mul_add] at f
    rw[Nat.mul_assoc (2^(32*i)) (l.getD i 0)]
    generalize l.getD i 0*2^s=t at *
    generalize 2^(32*i)=p at *
    have D:p*(t%4294967296)+p*(4294967296*(t/4294967296))=p*t:=by rw[<- Nat.mul_add,Nat.mod_add_div]
    omega
theorem UpI.done{l L:List Nat}{s:Nat}(h:UpI l s l.length L):val L=val l*2^s:=by
  have:=h.v
  rwa [List.take_length] at this
structure ccj(l:List Nat)(s:Nat)(i:Nat)(L:List Nat):Prop where
  le:i<=l.length
  len:L.length=l.length
  w:W L
  v:val (L.take i)=val l/2^s%2^(32*i)
theorem ccj.zero(l L:List Nat)(s:Nat)(b:L.length=l.length)(a:W L):ccj l s 0 L:=⟨Nat.zero_le _,b,a,by simp[val,Nat.mod_one]⟩
theorem dpq{l:List Nat}(h:W l)(i:Nat):l.getD i 0=val l/2^(32*i)%4294967296:=by
  by_cases hi:i<l.length
  · rw[<- cjx h i oO,tJ hi]
    have:=h.getD i
    omega
  · rw[zJ oO,Nat.div_eq_of_lt,Nat.zero_mod]
    exact Nat.lt_of_lt_of_le (vX h) (Nat.pow_le_pow_right oD oO)
theorem two_words{l:List Nat}(h:W l)(i:Nat):l.getD i 0+l.getD (i+1) 0*4294967296=val l/2^(32*i)%18446744073709551616:=by
  rw[dpq h i,dpq h (i+1),two32,<- Nat.div_div_eq_div_mul]
  generalize val l/2^(32*i)=q
  omega
theorem ccj.step{l L:List Nat}{s i x:Nat}(h:ccj l s i L)(f:s<32)(d:W l)(g:i<l.length)(c:x=(l.getD i 0+l.getD (i+1) 0*4294967296)/2^s%4294967296):ccj l s (i+1) (L.set i x):=by
  have a:=h.len
  refine ⟨by omega,by simp[a],h.w.set _ oO,?_⟩
  rw[gQ,bcj (Nat.le_refl _),yQ oO,h.v,c,two_words d]
  have e:val l/2^(32*i)%18446744073709551616/2^s%4294967296=val l/2^s/2^(32*i)%4294967296:=by
    rw[Nat.div_div_eq_div_mul (val l) (2^s),Nat.mul_comm (2^s),<- Nat.div_div_eq_div_mul]
    generalize val l/2^(32*i)=q
    have b:(18446744073709551616:Nat)=2^s*(4294967296*2^(32-s)):=by
      rw[Nat.mul_left_comm,<- Nat.pow_add,show s+(32-s)=32 by omega]
    rw[b,Nat.mod_mul_right_div_self,Nat.mod_mul_right_mod]
  rw[e,two32,Nat.mod_mul]
theorem ccj.done{l L:List Nat}{s:Nat}(h:ccj l s l.length L)(a:W l):val L=val l/2^s:=by
  have:=h.v
  rw[List.take_of_length_le (by rw[h.len];exact Nat.le_refl _)] at this
  rw[this,Nat.mod_eq_of_lt (Nat.lt_of_le_of_lt (Nat.div_le_self _ _) (vX a))]
structure cpq(x:Nat)(lb:List Nat)(i:Nat)(L0:List Nat)(j:Nat)(L:List Nat)(c:Nat):Prop where
  le:j<=lb.length
  len:L.length=L0.length
  w:W L
  c1:c<4294967296
  hi : ∀ k,i+j<=k->L.getD k 0=L0.getD k 0
  v:val L+2^(32*(i+j))*c=val L0+2^(32*i)*(x*val (lb.take j))
theorem cpq.zero{x:Nat}{b a:List Nat}{i:Nat}(c:W a):cpq x b i a 0 a 0:=⟨Nat.zero_le _,rfl,c,by omega,λ_ _=>rfl,by simp[val]⟩
theorem cpq.fits{x y z c:Nat}(d:x<4294967296)(b:y<4294967296)(a:z<4294967296)(e:c<4294967296):x*y+z+c<18446744073709551616/\x*y<18446744073709551616/\x*y+z<18446744073709551616:=by
  have:x*y<=4294967295*4294967295:=Nat.mul_le_mul oO oO
  omega
theorem cpq.step{x:Nat}{a b L:List Nat}{i j c:Nat}(h:cpq x a i b j L c)(e:x<4294967296)(g:W a)(r:j<a.length)(d:i+a.length<=b.length):
    cpq x a i b (j+1) (L.set (i+j) ((x*a.getD j 0+L.getD (i+j) 0+c)%4294967296)) ((x*a.getD j 0+L.getD (i+j) 0+c)/4294967296):=by
  have f:=h.len
  have s:=(cpq.fits e (g.getD j) (h.w.getD (i+j)) h.c1).1
  refine ⟨by omega,by simp[f],h.w.set _ oO,by omega,λk q=>?_,?_⟩
  · rw[getD_set_ne oO];exact h.hi k oO
  · have n:=c4x (l:=L) (i:=i+j) oO ((x*a.getD j 0+L.getD (i+j) 0+c)%4294967296)
    have o:=h.v
    rw[show i+(j+1)=i+j+1 by omega,two32 (i+j),gQ a j,Nat.mul_add x,Nat.mul_add (2^(32*i))]
    have m:2^(32*i)*(x*(2^(32*j)*a.getD j 0))=2^(32*(i+j))*(x*a.getD j 0):=by
      rw[show 32*(i+j)=32*i+32*j by omega,Nat.pow_add,Nat.mul_assoc,Nat.mul_left_comm x]
    rw[m]
    generalize x*a.getD j 0=t at *
    generalize L.getD (i+j) 0=z at *
    generalize 2^(32*(i+j))=p at *
    have u:p*((t+z+c)%4294967296)+p*4294967296*((t+z+c)/4294967296)=p*t+p*z+p*c:=by
      rw[Nat.mul_assoc,<- Nat.mul_add,Nat.mod_add_div,Nat.mul_add,Nat.mul_add]
    omega
structure dvj(la lb:List Nat)(i:Nat)(L:List Nat):Prop where
  le:i<=la.length
  len:L.length=la.length+lb.length
  w:W L
  hi : ∀ k,i+lb.length<=k->L.getD k 0=0
  v:val L=val (la.take i)*val lb
theorem dvj.zero(b a:List Nat):dvj b a 0 (List.replicate (b.length+a.length) 0):=⟨Nat.zero_le _,by simp,oZ _,λ_ _=>avj _ _,by rw[agx];simp[val]⟩
theorem dvj.step{b a g L:List Nat}{i c:Nat}(h:dvj b a i g)(hi:i<b.length)(k:cpq (b.getD i 0) a i g a.length L c):dvj b a (i+1) (L.set (i+a.length) c):=by
  have j:=h.len
  have d:=k.len
  refine ⟨by omega,by simp[d,j],k.w.set _ k.c1,λq m=>?_,?_⟩
  · rw[getD_set_ne oO,k.hi q oO];exact h.hi q oO
  · have f:=c4x (l:=L) (i:=i+a.length) oO c
    rw[k.hi _ (Nat.le_refl _),h.hi _ (Nat.le_refl _),Nat.mul_zero,Nat.add_zero] at f
    have e:=k.v
    rw[List.take_length] at e
    rw[gQ b i,Nat.add_mul,f,e,h.v,Nat.mul_assoc]
theorem dvj.done{a b L:List Nat}(h:dvj a b a.length L):val L=val a*val b:=by
  have:=h.v
  rwa [List.take_length] at this
def sgn(a b:Nat):Int:=if a<b then -1 else if b<a then 1 else 0
theorem ddq{a b:List Nat}{k:Nat}(f:W a)(e:W b)(p:a.length=b.length)(c:k<a.length)(d:a.drop (k+1)=b.drop (k+1)):(a.getD k 0<b.getD k 0->sgn (val a) (val b) = -1)/\(b.getD k 0<a.getD k 0->sgn (val a) (val b)=1)/\(a.getD k 0=b.getD k 0->a.drop k=b.drop k):=by
  have n:=amj a k oO
  have m:=amj b k oO
  have j:=vX (f.take k)
  have g:=vX (e.take k)
  rw[List.length_take,Nat.min_eq_left oO] at j g
  rw[tJ c] at n
  rw[tJ oO,<- d] at m
  generalize val (a.drop (k+1))=r at *
  have o:=Nat.two_pow_pos (32*k)
  refine ⟨λh=>?_,λh=>?_,λh=>by rw[cwx c,cwx (l:=b) (i:=k) oO,h,d]⟩
  · have:2^(32*k)*(a.getD k 0+4294967296*r+1)<=2^(32*k)*(b.getD k 0+4294967296*r):=Nat.mul_le_mul_left _ oO
    rw[Nat.mul_add,Nat.mul_one] at this
    unfold sgn
    rw[if_pos oO]
  · have:2^(32*k)*(b.getD k 0+4294967296*r+1)<=2^(32*k)*(a.getD k 0+4294967296*r):=Nat.mul_le_mul_left _ oO
    rw[Nat.mul_add,Nat.mul_one] at this
    unfold sgn
    rw[if_neg oO,if_pos oO]
theorem c5x{a b:Nat}: ((wd a).length<(wd b).length->sgn a b = -1)/\((wd b).length<(wd a).length->sgn a b=1):=by
  constructor
  · intro h
    have:a<b:=Nat.lt_of_not_le λc=>by have:=uX c;omega
    unfold sgn;rw[if_pos this]
  · intro h
    have:b<a:=Nat.lt_of_not_le λc=>by have:=uX c;omega
    unfold sgn;rw[if_neg oO,if_pos this]
theorem dcj(a:Nat):sgn a a=0:=by simp[sgn]
theorem tz_words{l:List Nat}{i:Nat}(h:W l)(k:i<l.length)(g:val (l.take i)=0)(d:l.getD i 0≠0):tz (val l)=32*i+tz (l.getD i 0):=by
  have f:=amj l i oO
  rw[g,Nat.zero_add,tJ k] at f
  have j:=h.getD i
  generalize l.getD i 0=x at *
  generalize val (l.drop (i+1))=r at *
  obtain ⟨a,b⟩:=akx d
  have m:tz x<32:=Nat.lt_of_lt_of_le (yJ d) (uJ.2 oO)
  generalize tz x=t at *
  generalize x/2^t=q at *
  have e:val l=(q+2^(32-t)*r)*2^(32*i+t):=by
    rw[f,b,Nat.pow_add,Nat.add_mul,Nat.mul_add]
    have c:(4294967296:Nat)=2^(32-t)*2^t:=by rw[<- Nat.pow_add,show 32-t+t=32 by omega]
    rw[c]
    simp only[Nat.mul_comm,Nat.mul_left_comm,Nat.mul_assoc]
  refine d1q e ?_
  have:2^(32-t)=2*2^(31-t):=by rw[show 32-t=(31-t)+1 by omega,Nat.pow_succ,Nat.mul_comm]
  rw[this,Nat.mul_assoc]
  omega
theorem val_one{l:List Nat}(h:l.length=1):val l=l.getD 0 0:=by
  match l,h with
  | [x],_=>simp[val]
theorem val_two{l:List Nat}(h:l.length=2):val l=l.getD 0 0+4294967296*l.getD 1 0:=by
  match l,h with
  | [x,y],_=>simp[val]
end Wd
section
open Go Sx Wd
structure K0(l:List Nat)(w:World)(k:Nat)(wr:World):Prop where
  le:k<=l.length
  vl:val (l.take k)=val l
  eq:w=wr
theorem a2q(v:Value)(l:List Nat)(w:World)(h:NU w v l):Ret Tryz.prog 212 [v] w λu w'=>NU w u (wd (val l))/\w=w':=by
 obtain ⟨⟨x,t,rfl,q,a⟩,c,o⟩:=h;have f:=crf w;refine zE1 Tryz.func212 rfl ?_;refine Sr λ_ n=>za rfl (zz (n (zc λ_ m=>CW.block ?_)));refine CW.loop (S:=λk:Nat=>[(0,.slice x k t)]) (Inv:=K0 l w) (mu:=λk=>k) (l.length) ?_ ?_ ?_
 ·exact ⟨Nat.le_refl _,by rw[List.take_length],rfl⟩
 ·exact SLp
 rintro k _ ⟨b,e,rfl⟩;refine zc λ_ j=>?_;refine CW.oJ 14 (decide (0<k/\l.getD (k-1) 0=0)) ?_ ?_
 ·refine zS λ_ d=>zm rfl (zn rfl (zG rfl rfl (zm rfl ?_)));refine zb ?_ ?_<;>intro p<;>try simp only[qs] at p
  ·refine zw rfl (zm rfl (zw rfl (zm rfl (zw rfl (zn rfl (zw rfl ?_))))))
   first|refine WL.ev (Ev.dX rfl rfl oO) rfl ?_|refine WL.ev (Ev.sub rfl rfl) rfl ?_
   refine zw rfl ?_;refine WL.ev (Ev.ixR ((k-1)) rfl rfl (a.q5 f) oO oO oT) rfl ?_;refine zw rfl ?_;refine WL.ev (Ev.load rfl rfl ((a.q5 f).u32 oF)) rfl ?_;have s:=c.getD ((k-1));refine zw rfl (zq rfl rfl (zt rfl rfl (zz (d ?_))));refine ⟨rfl,rfl,q9.g7 rfl ?_ ?_⟩
   ·first|(simp;omega)|(refine decide_eq_decide.2 ?_;omega)
   exact SMg
  refine zv rfl (zv rfl (zv rfl (zv rfl (zv rfl (zv rfl (zv rfl (ze rfl rfl (zz (d ?_)))))))));refine ⟨rfl,rfl,q9.g7 rfl ?_ ?_⟩
  ·first|(simp;omega)|(refine decide_eq_decide.2 ?_;omega)
  exact SMg
 refine zy rfl ?_ ?_<;>intro r<;>try simp only[qs] at r
 ·refine zkk (j (CW.block (zS λ_ g=>zm rfl (zm rfl (zn rfl ?_)))))
  first|refine WL.ev (Ev.dX rfl rfl oO) rfl ?_|refine WL.ev (Ev.sub rfl rfl) rfl ?_
  refine WL.ev (Ev.c4j ((k-1)) rfl rfl oO oO) rfl ?_;refine za rfl (zz (g ?_));refine ⟨rfl,k-1,?_,?_,?_⟩
  ·exact SLp
  ·exact ⟨by omega,by rw[b3x b oO oO];exact e,rfl⟩
  omega
 refine CW.exit ?_;refine m (Sr λ_ i=>zm rfl (za rfl (zz (i ?_))));refine zr (zr1 rfl rfl ?_);rw[cut_wd c b e oO];exact ⟨NU.part a c o b oO,rfl⟩
theorem b8q(v:Value)(l:List Nat)(w:World)(h:NU w v l):Ret Tryz.prog 206 [v] w λu w'=>NU w' u (wd (val l))/\Chg [] w w':=by
 obtain ⟨⟨M,I,rfl,B,c⟩,g,H⟩:=h;have a:=crf w;refine zE1 Tryz.func206 rfl ?_;refine Sr λ_ z=>za rfl (zz (z (Sr λ_ y=>zm rfl (zn rfl (za rfl (zz (y (zc λ_ x=>CW.block ?_))))))));refine CW.loop (S:=λk:Nat=>[(0,.slice M l.length I),(3,.int .i64 (k:Int))]) (Inv:=K0 l w) (mu:=λk=>k) (l.length) ?_ ?_ ?_
 ·exact ⟨Nat.le_refl _,by rw[List.take_length],rfl⟩
 ·exact SLp
 rintro k _ ⟨p,o,rfl⟩;refine zc λ_ t=>?_;refine CW.oJ 16 (decide (0<k/\l.getD (k-1) 0=0)) ?_ ?_
 ·refine zS λ_ j=>zm rfl (zG rfl rfl (zm rfl ?_));refine zb ?_ ?_<;>intro A<;>try simp only[qs] at A
  ·refine zw rfl (zm rfl (zw rfl (zm rfl (zw rfl ?_))))
   first|refine WL.ev (Ev.dX rfl rfl oO) rfl ?_|refine WL.ev (Ev.sub rfl rfl) rfl ?_
   refine zw rfl ?_;refine WL.ev (Ev.ixR ((k-1)) rfl rfl (c.q5 a) oO oO oT) rfl ?_;refine zw rfl ?_;refine WL.ev (Ev.load rfl rfl ((c.q5 a).u32 oF)) rfl ?_;have F:=g.getD ((k-1));refine zw rfl (zq rfl rfl (zt rfl rfl (zz (j ?_))));refine ⟨rfl,rfl,q9.g7 rfl ?_ ?_⟩
   ·first|(simp;omega)|(refine decide_eq_decide.2 ?_;omega)
   exact SMg
  refine zv rfl (zv rfl (zv rfl (zv rfl (zv rfl (zv rfl (ze rfl rfl (zz (j ?_))))))));refine ⟨rfl,rfl,q9.g7 rfl ?_ ?_⟩
  ·first|(simp;omega)|(refine decide_eq_decide.2 ?_;omega)
  exact SMg
 refine zy rfl ?_ ?_<;>intro C<;>try simp only[qs] at C
 ·refine zkk (t (CW.block (zS λ_ r=>zm rfl ?_)))
  first|refine WL.ev (Ev.dX rfl rfl oO) rfl ?_|refine WL.ev (Ev.sub rfl rfl) rfl ?_
  refine za rfl (zz (r ?_));refine ⟨rfl,k-1,?_,?_,?_⟩
  ·exact SLp
  ·exact ⟨by omega,by rw[b3x p oO oO];exact o,rfl⟩
  omega
 refine CW.exit ?_;refine x (Sr λ_ s=>zm rfl ?_);refine WL.baj (k) (k) rfl rfl oO oO oO oO oO rfl λJ D b e d=>?_;have i:=Nat.le_trans a.size d;have a:=a.ta e;refine za rfl (zz (s (Sr λ_ n=>zm rfl (zm rfl ?_))));refine WL.copyU rfl rfl b (c.q5 a) (by simp;try omega) (by simp;try omega) rfl λG f q=>?_;have a:=a.s1 q;have b:=f;rw[show ((l).take (min ((l).length) (k))++(List.replicate (k) 0).drop (min ((l).length) (k)))=l.take k from by rw[show min l.length k=k by omega,List.drop_eq_nil_of_le oS,List.append_nil]] at b;refine zz (n (Sr λ_ m=>zm rfl (za rfl (zz (m ?_)))));refine zr (zr1 rfl rfl ?_);rw[cut_wd g p o oO];exact ⟨NU.mJ b (g.take k) oT oT (Nat.le_refl _),a⟩
theorem b8x(n:Nat)(w:World)(m:n<18446744073709551616):Ret Tryz.prog 134 [.int .u64 (n:Int)] w λu w'=>NU w' u (wd n)/\Chg [] w w':=by
 refine zE1 Tryz.func134 rfl ?_;refine Sr λ_ c=>za rfl (zz (c (Sr λ_ a=>zm rfl ?_)));refine WL.ev (Ev.tZ rfl rfl) rfl ?_;refine zm rfl ?_;refine WL.ev (Ev.atx (b:=32) rfl rfl (by simp only[IntKind.bits];omega)) rfl ?_;refine WL.ev (Ev.tZ rfl rfl) rfl ?_;refine WL.buildSlice (cs:=[.int .u32 ((n%4294967296:Nat):Int),.int .u32 ((n/2^32%4294967296:Nat):Int)]) oD oD rfl oR rfl λk h f=>?_;have e:NU h (.slice (some ⟨k,0,none⟩) 2 2) [n%4294967296,n/2^32%4294967296]:=NU.mJ (E:=162) f.at_ (yX.2 ⟨by omega,yX.2 ⟨by omega,awj⟩⟩) oS rfl oO;have d:val [n%4294967296,n/2^32%4294967296]=n:=by simp only[val];omega
 refine WL.call hasF206 rfl rfl (b8q _ _ _ e) λv l j=>?_;obtain ⟨g,i⟩:=j;rw[d] at g;refine za rfl (zz (a ?_));refine zr (zr1 rfl rfl ?_);exact ⟨g,f.chg.trans i⟩
theorem dvq(v:Value)(l:List Nat)(w:World)(h:NU w v l):Ret Tryz.prog 215 [v] w λu w'=>u = .tuple [.int .u64 ((if val l<18446744073709551616 then val l else 0:Nat):Int),.int .i64 (if val l<18446744073709551616 then 0 else 2)].toArray/\w=w':=by
 have i:(wd (val l)).length<=2↔val l<18446744073709551616:=aQ (n:=val l) (k:=2);have f:=g6 (val l);obtain ⟨L,U⟩ : ∃ L,L=wd (val l):=⟨_,rfl⟩;rw[<- U] at i f;refine zE1 Tryz.func215 rfl ?_;refine Sr λ_ G=>za rfl (za rfl (zz (G (Sr λ_ F=>za rfl (zz (F (zc λ_ p=>Sr λ_ D=>zm rfl ?_)))))));refine WL.call hasF212 rfl rfl (a2q _ _ _ h) λv w1 h'=>?_;obtain ⟨T,rfl⟩:=h';rw[<- U] at T;obtain ⟨⟨a1,c1,rfl,I,a⟩,c,Z⟩:=T;refine za rfl (zz (D (CW.block (Sr λ_ C=>zm rfl (zn rfl (zG rfl rfl (za rfl (zz (C ?_)))))))));refine zy rfl ?_ ?_<;>intro Q<;>try simp only[qs] at Q
 ·refine Sr λ_ A=>za rfl (za rfl (zz (A ?_)));refine zr (zr2 rfl rfl rfl ?_);rw[if_neg oO,if_neg oO];exact ⟨rfl,rfl⟩
 refine Sr λ_ z=>zm rfl (zn rfl (zq rfl rfl (za rfl (zz (z ?_)))));refine zy rfl ?_ ?_<;>intro O<;>try simp only[qs] at O
 ·have Y:=val_two (l:=L) oO;have X:=c.getD 0
  have V:=c.getD 1;refine zR λ_ o=>?_;refine zm rfl ?_;refine WL.ev (Ev.ixR (1) rfl rfl a oO oO oT) rfl ?_;refine WL.ev (Ev.load rfl rfl (a.u32 oF)) rfl ?_;have R:=c.getD (1);refine WL.ev (Ev.dZ rfl rfl (iZ oO)) rfl ?_;refine WL.ev (Ev.apx (b:=32) rfl rfl) rfl ?_;refine za rfl ?_;refine WL.nil (o _ _ _ (p ?_));refine zc λ_ y=>Sr λ_ x=>zm rfl (zn rfl (zG rfl rfl (zz (x ?_))));refine zy rfl ?_ ?_<;>intro M<;>try simp only[qs] at M
  ·refine zR λ_ m=>?_
   refine zm rfl (zm rfl ?_);refine WL.ev (Ev.ixR (0) rfl rfl a oO oO oT) rfl ?_;refine WL.ev (Ev.load rfl rfl (a.u32 oF)) rfl ?_;have B:=c.getD (0);refine WL.ev (Ev.dZ rfl rfl (iZ oO)) rfl ?_;refine WL.ev (Ev.orU rfl rfl rfl (by simp only[IntKind.bits];omega) (by simp only[IntKind.bits];omega)) rfl ?_;refine za rfl ?_;refine WL.nil (m _ _ _ (y ?_));refine Sr λ_ t=>zm rfl (za rfl (za rfl (zz (t ?_))));refine zr (zr2 rfl rfl rfl ?_);have e:L.getD 1 0*2^32%18446744073709551616||| L.getD 0 0=val l:=by
    rw[Nat.mod_eq_of_lt oO,Nat.or_comm,agj oO];omega
   rw[e,if_pos oO,if_pos oO];exact ⟨rfl,rfl⟩
  exfalso;omega
 refine zkk (p (zc λ_ d=>Sr λ_ s=>zm rfl (zn rfl (zG rfl rfl (zz (s ?_))))));refine zy rfl ?_ ?_<;>intro J<;>try simp only[qs] at J
 ·have g:=val_one (l:=L) oO;refine zR λ_ j=>?_
  refine zm rfl (zm rfl ?_);refine WL.ev (Ev.ixR (0) rfl rfl a oO oO oT) rfl ?_;refine WL.ev (Ev.load rfl rfl (a.u32 oF)) rfl ?_;have B:=c.getD (0);refine WL.ev (Ev.dZ rfl rfl (iZ oO)) rfl ?_;refine WL.ev (Ev.orU rfl rfl rfl (by simp only[IntKind.bits];omega) (by simp only[IntKind.bits];omega)) rfl ?_;refine za rfl ?_;refine WL.nil (j _ _ _ (d ?_));refine Sr λ_ r=>zm rfl (za rfl (za rfl (zz (r ?_))));refine zr (zr2 rfl rfl rfl ?_);rw[Nat.zero_or,if_pos oO,if_pos oO,<- f,g];exact ⟨rfl,rfl⟩
 have H:L=[]:=List.length_eq_zero_iff.1 oO;have g:val l=0:=by rw[<- f,H];rfl
 refine zkk (d (Sr λ_ q=>zm rfl (za rfl (za rfl (zz (q ?_))))));refine zr (zr2 rfl rfl rfl ?_);rw[if_pos oO,if_pos oO,g];exact ⟨rfl,rfl⟩
theorem a3x(v:Value)(l:List Nat)(w:World)(h:NU w v l):Ret Tryz.prog 139 [v] w λu w'=>u = .int .i64 (bl (val l):Int)/\w=w':=by
 have c:=g6 (val l);obtain ⟨L,j⟩ : ∃ L,L=wd (val l):=⟨_,rfl⟩;rw[<- j] at c;refine zE1 Tryz.func139 rfl ?_;refine Sr λ_ p=>za rfl (zz (p (zc λ_ o=>Sr λ_ n=>zm rfl ?_)));refine WL.call hasF212 rfl rfl (a2q _ _ _ h) λv B s=>?_;obtain ⟨y,rfl⟩:=s;rw[<- j] at y;obtain ⟨⟨D,C,rfl,r,g⟩,b,z⟩:=y;refine za rfl (zz (n (Sr λ_ m=>zm rfl (zn rfl (zq rfl rfl (zz (m ?_)))))));refine zy rfl ?_ ?_<;>intro a<;>try simp only[qs] at a
 ·refine Sr λ_ k=>za rfl (zz (k ?_));refine zr (zr1 rfl rfl ?_);have q:L=[]:=List.length_eq_zero_iff.1 oO;rw[<- c,q];exact ⟨rfl,rfl⟩
 have d:L.getD (L.length-1) 0≠0:=by rw[j];exact ciq λe=>by rw[e,eJ] at j;rw[j] at a;exact a rfl
 have i:=bl_val b (λe=>by rw[e] at a;exact a rfl) d;rw[c] at i;have x:=uJ.2 (show L.getD (L.length-1) 0<2^32 from b.getD _);refine zkk (o (Sr λ_ f=>zm rfl (zn rfl ?_)))
 first|refine WL.ev (Ev.dX rfl rfl oO) rfl ?_|refine WL.ev (Ev.sub rfl rfl) rfl ?_
 refine WL.ev (Ev.czj rfl rfl oO) rfl ?_;refine zm rfl (zm rfl (zn rfl ?_))
 first|refine WL.ev (Ev.dX rfl rfl oO) rfl ?_|refine WL.ev (Ev.sub rfl rfl) rfl ?_
 refine WL.ev (Ev.ixR (((L).length-1)) rfl rfl g oO oO oT) rfl ?_;refine WL.ev (Ev.load rfl rfl (g.u32 oF)) rfl ?_;have t:=b.getD (((L).length-1));refine WL.call hasF213 rfl rfl (Len32_spec _ _ (b.getD _)) λv A s=>?_;obtain ⟨rfl,rfl⟩:=s;(first|refine zi rfl rfl ?_|refine zo rfl rfl ?_);refine za rfl (zz (f ?_));refine zr (zr1 rfl rfl ?_);refine ⟨?_,rfl⟩;rw[i];first|rfl|(congr 1;omega)
structure KL(l:List Nat)(w:World)(i:Nat)(wr:World):Prop where
  le:i<=l.length
  z:val (l.take i)=0
  eq:w=wr
theorem Low_spec(v:Value)(l:List Nat)(w:World)(h:NU w v l)(H:GW w):Ret Tryz.prog 207 [v] w λu w'=>u = .int .i64 (tz (val l):Int)/\w=w':=by
 obtain ⟨⟨M,J,rfl,y,j⟩,a,F⟩:=h;have k:=crf w;refine zE1 Tryz.func207 rfl ?_;refine Sr λ_ t=>za rfl (zz (t (zc λ_ s=>Sr λ_ r=>zm rfl (zn rfl (zm rfl (zz (r (CW.block ?_))))))));refine CW.loop (S:=λi:Nat=>[(5,.slice M l.length J),(6,.int .i64 (l.length:Int)),(7,.int .i64 (i:Int))]) (Inv:=KL l w) (mu:=λi=>l.length-i) (0) ?_ ?_ ?_
 ·exact ⟨Nat.zero_le _,rfl,rfl⟩
 ·exact SLp
 rintro i _ ⟨G,m,rfl⟩;refine Sr λ_ q=>zL rfl rfl (zz (q (zc λ_ p=>?_)));refine zy rfl ?_ ?_<;>intro A<;>try simp only[qs] at A
 ·refine zkk (p (zc λ_ o=>CW.block (Sr λ_ g=>zm rfl ?_)));refine WL.ev (Ev.ixR (i) rfl rfl (j.q5 k) oO oO oT) rfl ?_
  refine WL.ev (Ev.load rfl rfl ((j.q5 k).u32 oF)) rfl ?_;have B:=a.getD (i);refine za rfl (za rfl (zz (g (Sr λ_ f=>zm rfl (zN rfl rfl (zz (f ?_)))))));refine zy rfl ?_ ?_<;>intro z<;>try simp only[qs] at z
  ·have x:=tz_words a oO m oO;have D:=yJ (n:=l.getD i 0) oO;have C:=uJ.2 (show l.getD i 0<2^32 from a.getD _);refine Sr λ_ d=>zm rfl ?_
   refine WL.ev (Ev.czj rfl rfl oO) rfl ?_;refine zm rfl ?_;refine WL.call hasF249 rfl rfl (b1q _ _ H oO (a.getD _)) λv O I=>?_;obtain ⟨rfl,rfl⟩:=I;(first|refine zi rfl rfl ?_|refine zo rfl rfl ?_);refine za rfl (zz (d ?_));refine zr (zr1 rfl rfl ?_);refine ⟨?_,rfl⟩;rw[x];first|rfl|(congr 1;omega)
  refine zkk (o (zS λ_ b=>?_));(first|refine zi rfl rfl ?_|refine zo rfl rfl ?_);refine zm rfl (zz (b ?_));refine ⟨rfl,i+1,?_,?_,?_⟩
  ·exact SLp
  ·exact ⟨by omega,by rw[gQ l i,m,(by omega:l.getD i 0=0)];simp,rfl⟩
  show l.length-(i+1)<l.length-i;omega
 refine CW.exit ?_;refine s (Sr λ_ c=>za rfl (zz (c ?_)));refine zr (zr1 rfl rfl ?_);have e:i=l.length:=by omega
 subst e;rw[List.take_length] at m;rw[m,tz_zero];exact ⟨rfl,rfl⟩
theorem b9x{l:List Nat}(h:W l)(n:Nat):(val l).testBit n=decide (l.getD (n/32) 0/2^(n%32)%2=1):=by
  rw[dpq h,Nat.testBit_eq_decide_div_mod_eq]
  refine decide_eq_decide.2 ?_
  have e:val l/2^n=val l/2^(32*(n/32))/2^(n%32):=by
    rw[Nat.div_div_eq_div_mul,<- Nat.pow_add,show 32*(n/32)+n%32=n by omega]
  rw[e]
  generalize val l/2^(32*(n/32))=q
  have b:n%32<32:=Nat.mod_lt _ oD
  generalize n%32=r at *
  have a:(4294967296:Nat)=2^r*(2*2^(31-r)):=by
    rw[show 2*2^(31-r)=2^(32-r) by rw[Nat.mul_comm,<- Nat.pow_succ,show (31-r).succ=32-r by omega],<- Nat.pow_add,show r+(32-r)=32 by omega]
  rw[a,Nat.mod_mul_right_div_self,Nat.mod_mul_right_mod]
theorem Bit_spec(v:Value)(l:List Nat)(i:Int)(w:World)(h:NU w v l)(r : -9223372036854775808<=i/\i<=9223372036854775807):Ret Tryz.prog 217 [v,.int .i64 i] w λu w'=>u = .bool (decide (0<=i)&&(val l).testBit i.toNat)/\w=w':=by
 obtain ⟨⟨t,s,rfl,m,d⟩,f,q⟩:=h;have e:=crf w;refine zE2 Tryz.func217 rfl ?_;refine Sr λ_ g=>za rfl (zz (g (Sr λ_ a=>zm rfl ?_)));refine WL.ev (Ev.geq rfl rfl) rfl ?_;refine zm rfl ?_;refine zb ?_ ?_<;>intro k<;>try simp only[qs] at k
 ·obtain ⟨n,rfl⟩ : ∃ n:Nat,i=(n:Int):=⟨i.toNat,by omega⟩
  have c:=b9x f n;refine zw rfl (zm rfl (zw rfl ?_));refine WL.ev (Ev.djj (b:=32) rfl rfl oO (tQ oO).2) rfl ?_;refine zw rfl (zm rfl (zw rfl (zn rfl (zw rfl (zL rfl rfl (zt rfl rfl (zm rfl ?_)))))));refine zb ?_ ?_<;>intro j<;>try simp only[qs] at j
  ·refine zw rfl (zm rfl (zw rfl (zm rfl (zw rfl ?_))));refine WL.ev (Ev.djj (b:=32) rfl rfl oO (tQ oO).2) rfl ?_
   refine zw rfl ?_;refine WL.ev (Ev.ixR ((n/32)) rfl rfl (d.q5 e) oO oO oT) rfl ?_;refine zw rfl ?_;refine WL.ev (Ev.load rfl rfl ((d.q5 e).u32 oF)) rfl ?_;have o:=f.getD ((n/32));refine zw rfl (zm rfl (zw rfl ?_));refine WL.ev (Ev.dfx (b:=32) rfl rfl oO) rfl ?_;refine zw rfl ?_;refine WL.ev (Ev.atx rfl rfl (by simp only[IntKind.bits];omega)) rfl ?_;have p:l.getD (n/32) 0/2^(n%32)<=l.getD (n/32) 0:=Nat.div_le_self _ _;refine zw rfl ?_;refine WL.ev (Ev.andU (b:=1) rfl rfl rfl (by simp only[IntKind.bits];omega) (by simp only[IntKind.bits];omega)) rfl ?_;rw[Nat.and_one_is_mod];refine zw rfl (zq rfl rfl (zt rfl rfl (za rfl (zz (a ?_)))));refine zr (zr1 rfl rfl ?_);refine ⟨?_,rfl⟩;rw[show (n:Int).toNat=n by omega,c,decide_eq_true (show (0:Int)<=(n:Int) by omega),Bool.true_and]
   congr 1
   refine decide_eq_decide.2 ?_;omega
  refine zv rfl (zv rfl (zv rfl (zv rfl (zv rfl (zv rfl (zv rfl (zv rfl (zv rfl (zv rfl (ze rfl rfl (za rfl (zz (a ?_)))))))))))));refine zr (zr1 rfl rfl ?_);refine ⟨?_,rfl⟩;rw[show (n:Int).toNat=n by omega,c,zJ oO];simp
 refine zv rfl (zv rfl (zv rfl (zv rfl (zv rfl (ze rfl rfl (zm rfl (zv rfl (zv rfl (zv rfl (zv rfl (zv rfl (zv rfl (zv rfl (zv rfl (zv rfl (zv rfl (ze rfl rfl (za rfl (zz (a ?_))))))))))))))))))));refine zr (zr1 rfl rfl ?_);refine ⟨?_,rfl⟩;rw[decide_eq_false oO,Bool.false_and]
theorem cwq(F D:Value)(d c:List Nat)(w:World)(M:NU w F d)(J:NU w D c):Ret Tryz.prog 209 [F,D] w λu w'=>((((wd (val d)).length<=8192/\(wd (val c)).length<=8192)/\∃ x y,u = .tuple [x,y,.int .i64 0].toArray/\NU w x (wd (val d))/\NU w y (wd (val c)))\/(¬((wd (val d)).length<=8192/\(wd (val c)).length<=8192)/\u = .tuple [.slice none 0 0,.slice none 0 0,.int .i64 2].toArray))/\w=w':=by
 obtain ⟨A,i⟩ : ∃ A,A=wd (val d):=⟨_,rfl⟩;have H:val A=val d:=by rw[i];exact g6 _
 obtain ⟨B,h⟩ : ∃ B,B=wd (val c):=⟨_,rfl⟩;have G:val B=val c:=by rw[h];exact g6 _
 have I:=crf w;refine zE2 Tryz.func209 rfl ?_;refine Sr λ_ n=>za rfl (za rfl (za rfl (zz (n (Sr λ_ m=>zm rfl ?_)))));refine WL.call hasF212 rfl rfl (a2q _ _ _ M) λv Q C=>?_;obtain ⟨g,rfl⟩:=C;rw[<- i] at g;obtain ⟨⟨V,T,rfl,b,p⟩,z,r⟩:=g;refine zm rfl ?_;refine WL.call hasF212 rfl rfl (a2q _ _ _ J) λv O C=>?_;obtain ⟨f,rfl⟩:=C;rw[<- h] at f;obtain ⟨⟨U,R,rfl,a,o⟩,t,q⟩:=f;refine za rfl (za rfl (zz (m (zc λ_ l=>Sr λ_ k=>zm rfl (zn rfl (zm rfl (zn rfl ?_)))))));refine WL.ev (Ev.maxI rfl rfl) rfl ?_;refine zG rfl rfl (zz (k ?_));refine zy rfl ?_ ?_<;>intro s<;>try simp only[qs] at s
 ·refine Sr λ_ j=>za rfl (za rfl (za rfl (zz (j ?_))));refine zr ?_
  refine k8.ret3 rfl rfl rfl rfl ?_;rw[<- i,<- h];exact ⟨.inr ⟨by omega,rfl⟩,rfl⟩
 refine zkk (l (Sr λ_ e=>zm rfl (zm rfl (za rfl (za rfl (za rfl (zz (e ?_))))))));refine zr ?_;refine k8.ret3 rfl rfl rfl rfl ?_;rw[<- i,<- h];exact ⟨.inl ⟨by omega,_,_,rfl,NU.acq p z r rfl b,NU.acq o t q rfl a⟩,rfl⟩
theorem b7x(v:Value)(l:List Nat)(w:World)(h:NU w v l):Ret Tryz.prog 210 [v] w λu w'=>(((wd (val l)).length<=8192/\∃ r,u = .tuple [r,.int .i64 0].toArray/\NU w r (wd (val l)))\/(8192<(wd (val l)).length/\u = .tuple [.slice none 0 0,.int .i64 2].toArray))/\w=w':=by
 obtain ⟨A,c⟩ : ∃ A,A=wd (val l):=⟨_,rfl⟩;have p:val A=val l:=by rw[c];exact g6 _
 have q:=crf w;refine zE1 Tryz.func210 rfl ?_;refine Sr λ_ i=>za rfl (za rfl (zz (i (zc λ_ g=>Sr λ_ f=>zm rfl ?_))));refine WL.call hasF212 rfl rfl (a2q _ _ _ h) λv t s=>?_;obtain ⟨b,rfl⟩:=s;rw[<- c] at b;obtain ⟨⟨y,x,rfl,m,j⟩,o,k⟩:=b;refine za rfl (zz (f (Sr λ_ e=>zm rfl (zn rfl (zG rfl rfl (zz (e ?_)))))));refine zy rfl ?_ ?_<;>intro n<;>try simp only[qs] at n
 ·refine Sr λ_ d=>za rfl (za rfl (zz (d ?_)));refine zr (zr2 rfl rfl rfl ?_);rw[<- c];exact ⟨.inr ⟨by omega,rfl⟩,rfl⟩
 refine zkk (g (Sr λ_ a=>zm rfl (zm rfl (zn rfl (zm rfl (zn rfl ?_))))));refine WL.ev (Ev.slice3n ((A).length) ((A).length) rfl rfl rfl oO oO oO oO) rfl ?_;refine za rfl (za rfl (zz (a ?_)));refine zr (zr2 rfl rfl rfl ?_);rw[<- c];exact ⟨.inl ⟨by omega,_,rfl,NU.acq j o k rfl (Nat.le_refl _)⟩,rfl⟩
structure KA(X Y:List Nat)(w:World)(b:Nat)(g:Nat×List Nat×Nat)(wr:World):Prop where
  a:dxx X Y g.1 g.2.1 g.2.2
  ob:OB wr b 162 g.2.1
  chg:Chg [] w wr
theorem dwj(va vb:Value)(m l:List Nat)(w:World)(ha:NU w va m)(hb:NU w vb l):Ret Tryz.prog 274 [va,vb] w λu w'=>(((wd (val m)).length<=8192/\(wd (val l)).length<=8192/\(wd (val m+val l)).length<=8192/\∃ r,u = .tuple [r,.int .i64 0].toArray/\NU w' r (wd (val m+val l)))\/(¬((wd (val m)).length<=8192/\(wd (val l)).length<=8192/\(wd (val m+val l)).length<=8192)/\u = .tuple [.slice none 0 0,.int .i64 2].toArray))/\Chg [] w w':=by
 have a:=crf w;refine zE2 Tryz.func274 rfl ?_;refine Sr λ_ d6=>za rfl (za rfl (zz (d6 (Sr λ_ V=>zm rfl (zm rfl ?_)))));refine WL.call hasF209 rfl rfl (cwq _ _ _ _ _ ha hb) λv g3 f=>?_;obtain ⟨f,rfl⟩:=f;rcases f with ⟨s,x,y,rfl,c9,c8⟩|⟨h0,rfl⟩
 ·obtain ⟨A,k⟩ : ∃ A,A=wd (val m):=⟨_,rfl⟩;have g9:val A=val m:=by rw[k];exact g6 _
  obtain ⟨B,hB⟩ : ∃ B,B=wd (val l):=⟨_,rfl⟩;have g5:val B=val l:=by rw[hB];exact g6 _
  have j:=s;rw[<- k,<- hB] at s;rw[<- k] at c9;rw[<- hB] at c8;obtain ⟨⟨a1,c1,rfl,d8,b5⟩,c7,h2⟩:=c9;obtain ⟨⟨a2,c2,rfl,d7,b4⟩,c6,h1⟩:=c8;refine zm rfl (zx rfl rfl (zx rfl rfl (zx rfl rfl (za rfl (za rfl (za rfl (zz (V (zc λ_ d5=>Sr λ_ d4=>zm rfl (zN rfl rfl (zz (d4 ?_))))))))))));refine CW.oX rfl ?_;refine zkk (d5 ?_);refine CW.anx (λD s' w'=>D=[]/\w=w'/\∃ xa ca xb cb X Y,RW w xa (X.map kQ)/\W X/\RW w xb (Y.map kQ)/\W Y/\Y.length<=X.length/\X.length<=8192/\val X+val Y=val m+val l/\q9 [(0,.slice xa X.length ca),(1,.slice xb Y.length cb)] s') ?_ ?_
  ·refine Sr λ_ d3=>zm rfl (zn rfl (zm rfl (zn rfl (zL rfl rfl (zz (d3 ?_))))));refine zy rfl ?_ ?_<;>intro c5<;>try simp only[qs] at c5
   ·refine zS λ_ O=>zm rfl (zm rfl (za rfl (za rfl (zz (O ?_)))));exact ⟨rfl,rfl,a2,c2,a1,c1,B,A,b4,c6,b5,c7,by omega,by omega,by omega,(by repeat (first|exact q9.nil|refine q9.cons rfl ?_))⟩
   refine zkk ?_;exact ⟨rfl,rfl,a1,c1,a2,c2,A,B,b5,c7,b4,c6,by omega,by omega,by omega,(by repeat (first|exact q9.nil|refine q9.cons rfl ?_))⟩
  rintro _ s' _ ⟨rfl,rfl,xa,ca,xb,cb,X,Y,h,e,b3,n,e1,f4,e2,b2⟩;refine CW.sub b2 ?_;refine Sr λ_ a9=>zm rfl (zn rfl ?_);(first|refine zi rfl rfl ?_|refine zo rfl rfl ?_);refine WL.baj (((X).length+1)) (((X).length+1)) rfl rfl oO oO oO oO oO rfl λd0 e8 b z t=>?_;have C:=Nat.le_trans a.size t;have a:=a.ta z;refine za rfl (zz (a9 (Sr λ_ a8=>zm rfl (zm rfl ?_))));refine WL.copyU rfl rfl b (h.q5 a) (by simp;try omega) (by simp;try omega) rfl λg1 d c4=>?_;have a:=a.s1 c4;have b:=d;rw[show ((X).take (min ((X).length) (((X).length+1)))++(List.replicate (((X).length+1)) 0).drop (min ((X).length) (((X).length+1))))=(X++[0]) from by rw[show min X.length (X.length+1)=X.length by omega,List.take_length,List.drop_replicate,show X.length+1-X.length=1 by omega];rfl] at b;refine zz (a8 (Sr λ_ a7=>za rfl (zz (a7 (zc λ_ a6=>Sr λ_ a5=>zm rfl (zn rfl (zm rfl (zz (a5 (CW.block ?_))))))))));refine CW.loop (S:=λg:Nat×List Nat×Nat=>[(0,.slice xa X.length ca),(1,.slice xb Y.length cb),(7,.slice (some ⟨d0,0,none⟩) (X.length+1) (X.length+1)),(8,.int .u32 (g.2.2:Int)),(36,.int .i64 (X.length:Int)),(37,.int .i64 (g.1:Int))]) (Inv:=KA X Y w d0) (mu:=λg=>X.length-g.1) ((0,X++[0],0)) ?_ ?_ ?_
  ·exact ⟨dxx.zero oS (aoq.2 ⟨e,yX.2 ⟨by omega,awj⟩⟩),b,a⟩
  ·exact SLp
  rintro ⟨i,L,c⟩ wr ⟨k,b,a⟩;dsimp only at k b a;have h3:=k.le;have h6:=k.len;have c5:=k.c1;refine Sr λ_ a4=>zL rfl rfl (zz (a4 (zc λ_ a3=>?_)));refine zy rfl ?_ ?_<;>intro e0<;>try simp only[qs] at e0
  ·refine zkk (a3 (zc λ_ q=>CW.block (Sr λ_ a0=>zm rfl (za rfl (zz (a0 (Sr λ_ Z=>za rfl (zz (Z (zc λ_ p=>Sr λ_ U=>zm rfl (zm rfl (zn rfl (zL rfl rfl (zz (U ?_)))))))))))))));refine zy rfl ?_ ?_<;>intro d9<;>try simp only[qs] at d9
   ·refine zR λ_ M=>?_
    refine zm rfl (zm rfl ?_);refine WL.ev (Ev.ixR (i) rfl rfl (b3.q5 a) oO oO oT) rfl ?_;refine WL.ev (Ev.load rfl rfl ((b3.q5 a).u32 oF)) rfl ?_;have f3:=n.getD (i);refine za rfl ?_;refine WL.nil (M _ _ _ (p ?_));refine zR λ_ J=>?_;refine zm rfl (zm rfl (zm rfl (zm rfl ?_)));refine WL.ev (Ev.ixR (i) rfl rfl (h.q5 a) oO oO oT) rfl ?_;refine WL.ev (Ev.load rfl rfl ((h.q5 a).u32 oF)) rfl ?_;have b0:=e.getD (i);refine zm rfl (zm rfl ?_);refine WL.call hasF229 rfl rfl (btj (X.getD i 0) (Y.getD i 0) c _ (e.getD i) (n.getD i) oO) λv w1 f=>?_;obtain ⟨rfl,rfl⟩:=f;refine zm rfl (zx rfl rfl (zx rfl rfl ?_));refine WL.ev (Ev.ixB (i) rfl rfl oO oO) rfl ?_;refine WL.sJ rfl rfl b oF λg0 d c3=>?_;have a:=a.s1 c3;have b:=d;refine za rfl ?_;refine WL.nil (J _ _ _ (q ?_));refine zS λ_ I=>?_;(first|refine zi rfl rfl ?_|refine zo rfl rfl ?_);refine zm rfl (zz (I ?_));refine ⟨rfl,(i+1,L.set i ((X.getD i 0+Y.getD i 0+c)%4294967296),(X.getD i 0+Y.getD i 0+c)/4294967296),?_,?_,?_⟩
    ·exact SLp
    ·exact ⟨k.step e n oO,b,a⟩
    show X.length-(i+1)<X.length-i;omega
   have g4:Y.getD i 0=0:=zJ oO;refine zkk (p ?_);refine zR λ_ H=>?_;refine zm rfl (zm rfl (zm rfl (zm rfl ?_)));refine WL.ev (Ev.ixR (i) rfl rfl (h.q5 a) oO oO oT) rfl ?_;refine WL.ev (Ev.load rfl rfl ((h.q5 a).u32 oF)) rfl ?_;have b0:=e.getD (i);refine zm rfl (zm rfl ?_);refine WL.call hasF229 rfl rfl (btj (X.getD i 0) 0 c _ (e.getD i) oO oO) λv w2 f=>?_;obtain ⟨rfl,rfl⟩:=f;rw[show X.getD i 0+0+c=X.getD i 0+Y.getD i 0+c by omega];refine zm rfl (zx rfl rfl (zx rfl rfl ?_));refine WL.ev (Ev.ixB (i) rfl rfl oO oO) rfl ?_;refine WL.sJ rfl rfl b oF λf9 d c0=>?_;have a:=a.s1 c0;have b:=d;refine za rfl ?_;refine WL.nil (H _ _ _ (q ?_));refine zS λ_ G=>?_;(first|refine zi rfl rfl ?_|refine zo rfl rfl ?_);refine zm rfl (zz (G ?_));refine ⟨rfl,(i+1,L.set i ((X.getD i 0+Y.getD i 0+c)%4294967296),(X.getD i 0+Y.getD i 0+c)/4294967296),?_,?_,?_⟩
   ·exact SLp
   ·exact ⟨k.step e n oO,b,a⟩
   show X.length-(i+1)<X.length-i;omega
  refine CW.exit ?_;refine a6 (zc λ_ T=>?_);have b7:i=X.length:=by omega
  subst b7;obtain ⟨b1,e3,b6⟩:=k.done e1;rw[e2] at b1;refine zR λ_ F=>?_;refine zm rfl (zm rfl (zn rfl (zm rfl ?_)));refine WL.ev (Ev.ixB (X.length) rfl rfl oO oO) rfl ?_;refine WL.sJ rfl rfl b oF λf8 d b9=>?_;have a:=a.s1 b9;have b:=d;refine WL.nil (F _ _ _ (T ?_));refine Sr λ_ o=>zm rfl ?_;refine WL.call hasF210 rfl rfl (b7x _ _ _ (NU.mJ b e3 (by rw[b6];omega) (by rw[b6]) (Nat.le_refl _))) λv g2 f=>?_;obtain ⟨f,rfl⟩:=f;rw[b1] at f;rcases f with ⟨b8,r,rfl,e4⟩|⟨b8,rfl⟩
  ·refine zx rfl rfl (zx rfl rfl (za rfl (za rfl (zz (o ?_)))));refine zr (zr2 rfl rfl rfl ?_);exact ⟨.inl ⟨j.1,j.2,b8,r,rfl,e4⟩,a⟩
  refine zx rfl rfl (zx rfl rfl (za rfl (za rfl (zz (o ?_)))));refine zr (zr2 rfl rfl rfl ?_);exact ⟨.inr ⟨by omega,rfl⟩,a⟩
 refine zm rfl (zx rfl rfl (zx rfl rfl (zx rfl rfl (za rfl (za rfl (za rfl (zz (V (zc λ_ f2=>Sr λ_ R=>zm rfl (zN rfl rfl (zz (R ?_))))))))))));refine CW.nZ rfl ?_;refine Sr λ_ Q=>zm rfl (za rfl (za rfl (zz (Q ?_))));refine zr (zr2 rfl rfl rfl ?_);exact ⟨.inr ⟨by omega,rfl⟩,Chg.refl _ _⟩
structure KS(X Y:List Nat)(w:World)(b:Nat)(g:Nat×List Nat×Nat)(wr:World):Prop where
  a:duq X Y g.1 g.2.1 g.2.2
  ob:OB wr b 162 g.2.1
  chg:Chg [] w wr
theorem less_spec(va vb:Value)(d l:List Nat)(w:World)(ha:NU w va d)(hb:NU w vb l)(Z:val l<=val d):Ret Tryz.prog 230 [va,vb] w λu w'=>∃ L,NU w' u L/\val L=val d-val l/\Chg [] w w':=by
 obtain ⟨⟨a6,a4,rfl,R,k⟩,e,b2⟩:=ha;obtain ⟨⟨a5,a3,rfl,Q,o⟩,f,b1⟩:=hb;have a:=crf w;refine zE2 Tryz.func230 rfl ?_;refine Sr λ_ Y=>za rfl (zz (Y (Sr λ_ X=>zm rfl (zn rfl ?_))));refine WL.baj ((d).length) ((d).length) rfl rfl oO oO oO oO oO rfl λO a7 b q p=>?_;have r:=Nat.le_trans a.size p;have a:=a.ta q;refine za rfl (zz (X (Sr λ_ V=>za rfl (zz (V (zc λ_ U=>Sr λ_ T=>zm rfl (zn rfl (zm rfl (zz (T (CW.block ?_)))))))))));refine CW.loop (S:=λg:Nat×List Nat×Nat=>[(0,.slice a6 d.length a4),(1,.slice a5 l.length a3),(5,.slice (some ⟨O,0,none⟩) d.length d.length),(6,.int .u32 (g.2.2:Int)),(13,.int .i64 (d.length:Int)),(14,.int .i64 (g.1:Int))]) (Inv:=KS d l w O) (mu:=λg=>d.length-g.1) ((0,List.replicate d.length 0,0)) ?_ ?_ ?_
 ·exact ⟨duq.zero oS (oZ _),b,a⟩
 ·exact SLp
 rintro ⟨i,L,c⟩ wr ⟨h,b,a⟩;dsimp only at h b a;have b5:=h.le;have b9:=h.len;have b6:=h.c1;refine Sr λ_ G=>zL rfl rfl (zz (G (zc λ_ F=>?_)));refine zy rfl ?_ ?_<;>intro a1<;>try simp only[qs] at a1
 ·refine zkk (F (zc λ_ n=>CW.block (Sr λ_ D=>zm rfl (za rfl (zz (D (Sr λ_ C=>za rfl (zz (C (zc λ_ m=>Sr λ_ B=>zm rfl (zm rfl (zn rfl (zL rfl rfl (zz (B ?_)))))))))))))));refine zy rfl ?_ ?_<;>intro a0<;>try simp only[qs] at a0
  ·refine zR λ_ z=>?_
   refine zm rfl (zm rfl ?_);refine WL.ev (Ev.ixR (i) rfl rfl (o.q5 a) oO oO oT) rfl ?_;refine WL.ev (Ev.load rfl rfl ((o.q5 a).u32 oF)) rfl ?_;have b0:=f.getD (i);refine za rfl ?_;refine WL.nil (z _ _ _ (m ?_));refine zR λ_ y=>?_;refine zm rfl (zm rfl (zm rfl (zm rfl ?_)));refine WL.ev (Ev.ixR (i) rfl rfl (k.q5 a) oO oO oT) rfl ?_;refine WL.ev (Ev.load rfl rfl ((k.q5 a).u32 oF)) rfl ?_;have H:=e.getD (i);refine zm rfl (zm rfl ?_);refine WL.call hasF255 rfl rfl (duj (d.getD i 0) (l.getD i 0) c _ (e.getD i) (f.getD i) oO) λv w1 h'=>?_;obtain ⟨rfl,rfl⟩:=h';refine zm rfl (zx rfl rfl (zx rfl rfl ?_));refine WL.ev (Ev.ixB (i) rfl rfl oO oO) rfl ?_;refine WL.sJ rfl rfl b oF λb4 j M=>?_;have a:=a.s1 M;have b:=j;refine za rfl ?_;refine WL.nil (y _ _ _ (n ?_));refine zS λ_ x=>?_;(first|refine zi rfl rfl ?_|refine zo rfl rfl ?_);refine zm rfl (zz (x ?_));refine ⟨rfl,(i+1,L.set i ((d.getD i 0+8589934592-l.getD i 0-c)%4294967296),if d.getD i 0<l.getD i 0+c then 1 else 0),?_,?_,?_⟩
   ·exact SLp
   ·exact ⟨h.step e f oO,b,a⟩
   show d.length-(i+1)<d.length-i;omega
  have e0:Value.int IntKind.u32 0=Value.int IntKind.u32 ((l.getD i 0:Nat):Int):=by rw[zJ oO];rfl
  rw[e0];refine zkk (m ?_);refine zR λ_ t=>?_;refine zm rfl (zm rfl (zm rfl (zm rfl ?_)));refine WL.ev (Ev.ixR (i) rfl rfl (k.q5 a) oO oO oT) rfl ?_;refine WL.ev (Ev.load rfl rfl ((k.q5 a).u32 oF)) rfl ?_;have H:=e.getD (i);refine zm rfl (zm rfl ?_);refine WL.call hasF255 rfl rfl (duj (d.getD i 0) (l.getD i 0) c _ (e.getD i) (f.getD i) oO) λv w2 h'=>?_;obtain ⟨rfl,rfl⟩:=h';refine zm rfl (zx rfl rfl (zx rfl rfl ?_));refine WL.ev (Ev.ixB (i) rfl rfl oO oO) rfl ?_;refine WL.sJ rfl rfl b oF λb3 j J=>?_;have a:=a.s1 J;have b:=j;refine za rfl ?_;refine WL.nil (t _ _ _ (n ?_));refine zS λ_ s=>?_;(first|refine zi rfl rfl ?_|refine zo rfl rfl ?_);refine zm rfl (zz (s ?_));refine ⟨rfl,(i+1,L.set i ((d.getD i 0+8589934592-l.getD i 0-c)%4294967296),if d.getD i 0<l.getD i 0+c then 1 else 0),?_,?_,?_⟩
  ·exact SLp
  ·exact ⟨h.step e f oO,b,a⟩
  show d.length-(i+1)<d.length-i;omega
 refine CW.exit ?_;refine U (Sr λ_ A=>zm rfl (za rfl (zz (A ?_))));refine zr (zr1 rfl rfl ?_);have I:i=d.length:=by omega
 subst I;exact ⟨L,NU.mJ b h.w oO oO (Nat.le_refl _),h.done e f Z,a⟩
structure KC(A B:List Nat)(w:World)(k:Nat)(wr:World):Prop where
  le:k<=A.length
  eq:A.drop k=B.drop k
  chg:Chg [] w wr
theorem dwq(va vb:Value)(m l:List Nat)(w:World)(ha:NU w va m)(hb:NU w vb l):Ret Tryz.prog 169 [va,vb] w λu w'=>u = .int .i64 (sgn (val m) (val l))/\Chg [] w w':=by
 obtain ⟨A,U⟩ : ∃ A,A=wd (val m):=⟨_,rfl⟩;have J:val A=val m:=by rw[U];exact g6 _
 obtain ⟨B,T⟩ : ∃ B,B=wd (val l):=⟨_,rfl⟩;have I:val B=val l:=by rw[T];exact g6 _
 have c:=crf w;refine zE2 Tryz.func169 rfl ?_;refine Sr λ_ a0=>za rfl (zz (a0 (Sr λ_ Z=>zm rfl ?_)));refine WL.call hasF212 rfl rfl (a2q _ _ _ ha) λv w1 h'=>?_;obtain ⟨Q,rfl⟩:=h';rw[<- U] at Q;obtain ⟨⟨a1,c1,rfl,a6,f⟩,j,c4⟩:=Q;refine zm rfl ?_;refine WL.call hasF212 rfl rfl (a2q _ _ _ hb) λv w2 h'=>?_;obtain ⟨O,rfl⟩:=h';rw[<- T] at O;obtain ⟨⟨a2,c2,rfl,a5,e⟩,i,c3⟩:=O;refine za rfl (za rfl (zz (Z (zc λ_ Y=>CW.block (Sr λ_ X=>zm rfl (zn rfl (zm rfl (zn rfl (zL rfl rfl (za rfl (zz (X ?_))))))))))));refine zy rfl ?_ ?_<;>intro b1<;>try simp only[qs] at b1
 ·refine Sr λ_ V=>za rfl (zz (V ?_));refine zr (zr1 rfl rfl ?_);have M:=c5x (a:=val m) (b:=val l);rw[<- U,<- T] at M;rw[M.1 oO];exact ⟨rfl,c⟩
 refine Sr λ_ H=>zm rfl (zn rfl (zm rfl (zn rfl (zG rfl rfl (za rfl (zz (H ?_)))))));refine zy rfl ?_ ?_<;>intro b0<;>try simp only[qs] at b0
 ·refine Sr λ_ G=>za rfl (zz (G ?_));refine zr (zr1 rfl rfl ?_);have M:=c5x (a:=val m) (b:=val l);rw[<- U,<- T] at M;rw[M.2 oO];exact ⟨rfl,c⟩
 have R:A.length=B.length:=by omega
 refine zkk (Y (zc λ_ F=>Sr λ_ D=>zm rfl (zn rfl ?_)))
 first|refine WL.ev (Ev.dX rfl rfl oO) rfl ?_|refine WL.ev (Ev.sub rfl rfl) rfl ?_
 refine za rfl (zz (D (CW.block ?_)));refine CW.loop (S:=λk:Nat=>[(0,.slice a1 A.length c1),(1,.slice a2 B.length c2),(5,.int .i64 ((k:Int)-1))]) (Inv:=KC A B w) (mu:=λk=>k) (A.length) ?_ ?_ ?_
 ·exact ⟨Nat.le_refl _,by rw[List.drop_length,R,List.drop_length],c⟩
 ·exact SLp
 rintro k wr ⟨c5,g,c⟩;refine zc λ_ C=>Sr λ_ z=>zm rfl ?_;refine WL.ev (Ev.geq rfl rfl) rfl ?_;refine zz (z ?_);refine zy rfl ?_ ?_<;>intro a9<;>try simp only[qs] at a9
 ·have a3:k-1+1=k:=by omega
  have d:=ddq j i R (k:=k-1) oO (by rw[a3];exact g);rw[J,I] at d;refine zkk (C (zc λ_ y=>CW.block (CW.block (zc λ_ x=>?_))));refine CW.jQ cJ oR λb6 p h=>?_;have c:=c.ta h;refine ym rfl (ym rfl ?_);refine WS.ev (Ev.ixR ((k-1)) rfl rfl (f.q5 c) oO oO oT) rfl ?_;refine WS.ev (Ev.load rfl rfl ((f.q5 c).u32 oF)) rfl ?_;have c0:=j.getD ((k-1));refine ym rfl (ym rfl ?_);refine WS.ev (Ev.ixR ((k-1)) rfl rfl (e.q5 c) oO oO oT) rfl ?_;refine WS.ev (Ev.load rfl rfl ((e.q5 c).u32 oF)) rfl ?_;have b9:=i.getD ((k-1));refine WS.ev (Ev.lss rfl rfl) rfl ?_;refine ya rfl ?_;refine WS.nil (p _ _ ?_);refine x ?_;refine zy rfl ?_ ?_<;>intro a8<;>try simp only[qs] at a8
  ·refine Sr λ_ t=>za rfl (zz (t ?_));refine zr (zr1 rfl rfl ?_);rw[d.1 oO];exact ⟨rfl,c⟩
  refine zc λ_ s=>?_;refine CW.jQ cJ oR λb5 o h=>?_;have c:=c.ta h;refine ym rfl (ym rfl ?_);refine WS.ev (Ev.ixR ((k-1)) rfl rfl (f.q5 c) oO oO oT) rfl ?_;refine WS.ev (Ev.load rfl rfl ((f.q5 c).u32 oF)) rfl ?_;have b8:=j.getD ((k-1));refine ym rfl (ym rfl ?_);refine WS.ev (Ev.ixR ((k-1)) rfl rfl (e.q5 c) oO oO oT) rfl ?_;refine WS.ev (Ev.load rfl rfl ((e.q5 c).u32 oF)) rfl ?_;have b7:=i.getD ((k-1));refine WS.ev (Ev.gtr rfl rfl) rfl ?_;refine ya rfl ?_;refine WS.nil (o _ _ ?_);refine s ?_;refine zy rfl ?_ ?_<;>intro a7<;>try simp only[qs] at a7
  ·refine Sr λ_ r=>za rfl (zz (r ?_));refine zr (zr1 rfl rfl ?_);rw[d.2.1 oO];exact ⟨rfl,c⟩
  refine zkk (y (zS λ_ n=>zm rfl ?_))
  first|refine WL.ev (Ev.dX rfl rfl oO) rfl ?_|refine WL.ev (Ev.sub rfl rfl) rfl ?_
  refine za rfl (zz (n ?_));refine ⟨rfl,k-1,?_,?_,?_⟩
  ·exact SLp
  ·exact ⟨by omega,d.2.2 oO,c⟩
  omega
 refine CW.exit ?_;refine F (Sr λ_ q=>za rfl (zz (q ?_)));refine zr (zr1 rfl rfl ?_);have a4:k=0:=by omega
 subst a4;rw[List.drop_zero,List.drop_zero] at g;rw[<- J,<- I,g,dcj];exact ⟨rfl,c⟩
theorem Sub_spec(H G:Value)(h g:List Nat)(w:World)(T:NU w H h)(R:NU w G g):Ret Tryz.prog 170 [H,G] w λu w'=>(((wd (val h)).length<=8192/\(wd (val g)).length<=8192/\val g<=val h/\∃ r,u = .tuple [r,.int .i64 0].toArray/\NU w' r (wd (val h-val g)))\/(¬((wd (val h)).length<=8192/\(wd (val g)).length<=8192)/\u = .tuple [.slice none 0 0,.int .i64 2].toArray)\/(((wd (val h)).length<=8192/\(wd (val g)).length<=8192)/\val h<val g/\u = .tuple [.slice none 0 0,.int .i64 20].toArray))/\Chg [] w w':=by
 have a:=crf w;refine zE2 Tryz.func170 rfl ?_;refine Sr λ_ C=>za rfl (za rfl (zz (C (Sr λ_ l=>zm rfl (zm rfl ?_)))));refine WL.call hasF209 rfl rfl (cwq _ _ _ _ _ T R) λv J c=>?_;obtain ⟨c,rfl⟩:=c;rcases c with ⟨d,x,y,rfl,e,i⟩|⟨M,rfl⟩
 ·have O:=bX (NU.hw e);refine zm rfl (zx rfl rfl (zx rfl rfl (zx rfl rfl (za rfl (za rfl (za rfl (zz (l (zc λ_ B=>CW.block (Sr λ_ A=>zm rfl (zN rfl rfl (za rfl (zz (A ?_))))))))))))));refine CW.oX rfl ?_;refine Sr λ_ z=>zm rfl (zm rfl ?_);refine WL.call hasF169 rfl rfl (dwq _ _ _ _ _ e i) λv X c=>?_;obtain ⟨rfl,f⟩:=c;have a:=a.trans f;have e:=e.q5 f;have i:=i.q5 f;rw[g6,g6];refine zL rfl rfl (za rfl (zz (z ?_)));refine zy rfl ?_ ?_<;>intro b<;>try simp only[qs] at b
  ·have j:val h<val g:=Nat.lt_of_not_le λk=>by unfold sgn at b;split at b<;>(try split at b)<;>omega
   refine Sr λ_ p=>za rfl (za rfl (zz (p ?_)));refine zr (zr2 rfl rfl rfl ?_);exact ⟨.inr (.inr ⟨d,j,rfl⟩),a⟩
  have k:val g<=val h:=Nat.le_of_not_lt λj=>by unfold sgn at b;rw[if_pos j] at b;omega
  refine zkk (B (Sr λ_ o=>zm rfl (zm rfl ?_)));refine WL.call hasF230 rfl rfl (less_spec _ _ _ _ _ e i (by rw[g6,g6];exact k)) λv V c=>?_;obtain ⟨L,F,s,t⟩:=c;have a:=a.trans t;rw[g6,g6] at s;refine WL.call hasF210 rfl rfl (b7x _ _ _ F) λv U c=>?_;obtain ⟨c,rfl⟩:=c;rw[s] at c;obtain ⟨Q,r,rfl,D⟩:=c.resolve_right (λq=>by have:=q.1;have:=uX (Nat.sub_le (val h) (val g));omega);refine zx rfl rfl (zx rfl rfl (za rfl (za rfl (zz (o ?_)))));refine zr (zr2 rfl rfl rfl ?_);exact ⟨.inl ⟨d.1,d.2,k,r,rfl,D⟩,a⟩
 refine zm rfl (zx rfl rfl (zx rfl rfl (zx rfl rfl (za rfl (za rfl (za rfl (zz (l (zc λ_ I=>CW.block (Sr λ_ n=>zm rfl (zN rfl rfl (za rfl (zz (n ?_))))))))))))));refine CW.nZ rfl ?_;refine Sr λ_ m=>zm rfl (za rfl (za rfl (zz (m ?_))));refine zr (zr2 rfl rfl rfl ?_);exact ⟨.inr (.inl ⟨by omega,rfl⟩),Chg.refl _ _⟩
structure KU(l:List Nat)(s:Nat)(w:World)(b:Nat)(g:Nat×List Nat)(wr:World):Prop where
  a:UpI l s g.1 g.2
  ob:OB wr b 162 g.2
  chg:Chg [] w wr
structure KD(l:List Nat)(s:Nat)(w:World)(b:Nat)(g:Nat×List Nat)(wr:World):Prop where
  a:ccj l s g.1 g.2
  ob:OB wr b 162 g.2
  chg:Chg [] w wr
theorem up_spec(v:Value)(l:List Nat)(s:Nat)(w:World)(h:NU w v l)(Z:s<32)(a0:l.length<70368744177664):Ret Tryz.prog 228 [v,.int .i64 (s:Int)] w λu w'=>∃ L,NU w' u L/\L.length=l.length+1/\val L=val l*2^s/\Chg [] w w':=by
 obtain ⟨⟨al,cl,rfl,O,y⟩,C,a1⟩:=h;have c:=crf w;refine zE2 Tryz.func228 rfl ?_;refine Sr λ_ J=>za rfl (zz (J (Sr λ_ I=>zm rfl (zn rfl ?_))));(first|refine zi rfl rfl ?_|refine zo rfl rfl ?_);refine WL.baj (((l).length+1)) (((l).length+1)) rfl rfl oO oO oO oO oO rfl λD T a j f=>?_;have k:=Nat.le_trans c.size f;have c:=c.ta j;refine za rfl (zz (I (zc λ_ H=>Sr λ_ G=>zm rfl (zn rfl (zm rfl (zz (G (CW.block ?_))))))));refine CW.loop (S:=λg:Nat×List Nat=>[(1,.int .i64 (s:Int)),(5,.slice (some ⟨D,0,none⟩) (l.length+1) (l.length+1)),(13,.slice al l.length cl),(14,.int .i64 (l.length:Int)),(15,.int .i64 (g.1:Int))]) (Inv:=KU l s w D) (mu:=λg=>l.length-g.1) ((0,List.replicate (l.length+1) 0)) ?_ ?_ ?_
 ·exact ⟨UpI.zero l s,a,c⟩
 ·exact SLp
 rintro ⟨i,L⟩ wr ⟨d,a,c⟩;dsimp only at d a c;have a2:=d.le;have a3:=d.len;have R:=d.w;refine Sr λ_ F=>zL rfl rfl (zz (F (zc λ_ x=>?_)));refine zy rfl ?_ ?_<;>intro Q<;>try simp only[qs] at Q
 ·have M:=d.step Z C oO;refine zkk (x (zc λ_ t=>CW.block (Sr λ_ r=>zm rfl ?_)));refine WL.ev (Ev.ixR (i) rfl rfl (y.q5 c) oO oO oT) rfl ?_
  refine WL.ev (Ev.load rfl rfl ((y.q5 c).u32 oF)) rfl ?_;have V:=C.getD (i);refine za rfl (za rfl (zz (r (Sr λ_ q=>zm rfl ?_))));refine WL.ev (Ev.dZ rfl rfl (iZ oO)) rfl ?_;refine zm rfl ?_;refine WL.ev (Ev.apx rfl rfl) rfl ?_;refine za rfl (zz (q (Sr λ_ p=>zm rfl (zm rfl ?_))));refine WL.ev (Ev.ixB (i) rfl rfl oO oO) rfl ?_;refine WL.ev (Ev.load rfl rfl (a.u32 oF)) rfl ?_;have U:=R.getD (i);refine zm rfl ?_;refine WL.ev (Ev.tZ rfl rfl) rfl ?_;refine WL.ev (Ev.orU rfl rfl rfl (by simp only[IntKind.bits];omega) (by simp only[IntKind.bits];omega)) rfl ?_;refine WL.ev (Ev.ixB (i) rfl rfl oO oO) rfl ?_;refine WL.sJ rfl rfl a oF λY e B=>?_;have c:=c.s1 B;have a:=e;refine zz (p ?_);refine zR λ_ n=>?_;refine zm rfl (zm rfl ?_);(first|refine zi rfl rfl ?_|refine zo rfl rfl ?_);refine zm rfl ?_;refine WL.ev (Ev.atx (b:=32) rfl rfl (by simp only[IntKind.bits];omega)) rfl ?_;refine WL.ev (Ev.tZ rfl rfl) rfl ?_;refine WL.ev (Ev.ixB ((i+1)) rfl rfl oO oO) rfl ?_;refine WL.sJ rfl rfl a oF λX e A=>?_;have c:=c.s1 A;have a:=e;refine WL.nil (n _ _ _ (t ?_));refine zS λ_ m=>?_;(first|refine zi rfl rfl ?_|refine zo rfl rfl ?_);refine zm rfl (zz (m ?_));refine ⟨rfl,(i+1,(L.set i (L.getD i 0||| (l.getD i 0*2^s%18446744073709551616%4294967296))).set (i+1) (l.getD i 0*2^s%18446744073709551616/2^32%4294967296)),?_,?_,?_⟩
  ·exact SLp
  ·exact ⟨M.2,a,c⟩
  show l.length-(i+1)<l.length-i;omega
 refine CW.exit ?_;refine H (Sr λ_ o=>zm rfl (za rfl (zz (o ?_))));refine zr (zr1 rfl rfl ?_);have z:i=l.length:=by omega
 subst z;exact ⟨L,NU.mJ a d.w oO oO (Nat.le_refl _),d.len,d.done,c⟩
theorem down_spec(v:Value)(l:List Nat)(s:Nat)(w:World)(h:NU w v l)(hs:s<32):Ret Tryz.prog 227 [v,.int .i64 (s:Int)] w λu w'=>∃ L,NU w' u L/\val L=val l/2^s/\Chg [] w w':=by
 obtain ⟨⟨al,cl,rfl,X,j⟩,f,a9⟩:=h;have a:=crf w;refine zE2 Tryz.func227 rfl ?_;refine Sr λ_ T=>za rfl (zz (T (Sr λ_ R=>zm rfl (zn rfl ?_))));refine WL.baj ((l).length) ((l).length) rfl rfl oO oO oO oO oO rfl λJ a2 c r n=>?_;have t:=Nat.le_trans a.size n;have a:=a.ta r;refine za rfl (zz (R (zc λ_ Q=>Sr λ_ O=>zm rfl (zn rfl (zm rfl (zz (O (CW.block ?_))))))));refine CW.loop (S:=λg:Nat×List Nat=>[(0,.slice al l.length cl),(1,.int .i64 (s:Int)),(5,.slice (some ⟨J,0,none⟩) l.length l.length),(12,.slice al l.length cl),(13,.int .i64 (l.length:Int)),(14,.int .i64 (g.1:Int))]) (Inv:=KD l s w J) (mu:=λg=>l.length-g.1) ((0,List.replicate l.length 0)) ?_ ?_ ?_
 ·exact ⟨ccj.zero l _ s oS (oZ _),c,a⟩
 ·exact SLp
 rintro ⟨i,L⟩ wr ⟨d,c,a⟩;dsimp only at d c a;have b0:=d.le;have b2:=d.len;have b1:=d.w;refine Sr λ_ M=>zL rfl rfl (zz (M (zc λ_ H=>?_)));refine zy rfl ?_ ?_<;>intro Z<;>try simp only[qs] at Z
 ·refine zkk (H (zc λ_ m=>CW.block (Sr λ_ G=>zm rfl ?_)));refine WL.ev (Ev.ixR (i) rfl rfl (j.q5 a) oO oO oT) rfl ?_
  refine WL.ev (Ev.load rfl rfl ((j.q5 a).u32 oF)) rfl ?_;have a4:=f.getD (i);refine za rfl (za rfl (zz (G (Sr λ_ F=>zm rfl ?_))));refine WL.ev (Ev.dZ rfl rfl (iZ oO)) rfl ?_;refine za rfl (zz (F (zc λ_ k=>Sr λ_ D=>zm rfl ?_)));(first|refine zi rfl rfl ?_|refine zo rfl rfl ?_);refine zm rfl (zn rfl (zL rfl rfl (zz (D ?_))));refine zy rfl ?_ ?_<;>intro Y<;>try simp only[qs] at Y
  ·refine zR λ_ B=>?_
   refine zm rfl (zm rfl (zm rfl ?_));(first|refine zi rfl rfl ?_|refine zo rfl rfl ?_);refine WL.ev (Ev.ixR ((i+1)) rfl rfl (j.q5 a) oO oO oT) rfl ?_;refine WL.ev (Ev.load rfl rfl ((j.q5 a).u32 oF)) rfl ?_;have a3:=f.getD ((i+1));refine WL.ev (Ev.dZ rfl rfl (iZ oO)) rfl ?_;refine WL.ev (Ev.apx (b:=32) rfl rfl) rfl ?_;refine WL.ev (Ev.orU rfl rfl rfl (by simp only[IntKind.bits];omega) (by simp only[IntKind.bits];omega)) rfl ?_;rw[Nat.mod_eq_of_lt (show l.getD (i+1) 0*2^32<18446744073709551616 by omega),agj (show l.getD i 0<2^32 by omega),show l.getD (i+1) 0*2^32=l.getD (i+1) 0*4294967296 from rfl];refine za rfl ?_;refine WL.nil (B _ _ _ (k ?_));refine zR λ_ A=>?_;refine zm rfl (zm rfl (zm rfl (zm rfl ?_)));have V:(l.getD i 0+l.getD (i+1) 0*4294967296)/2^s<=l.getD i 0+l.getD (i+1) 0*4294967296:=Nat.div_le_self _ _;have U:=f.getD (i+1);refine WL.ev (Ev.atx rfl rfl (by simp only[IntKind.bits];omega)) rfl ?_;refine WL.ev (Ev.tZ rfl rfl) rfl ?_;refine WL.ev (Ev.ixB (i) rfl rfl oO oO) rfl ?_;refine WL.sJ rfl rfl c oF λa1 e p=>?_;have a:=a.s1 p;have c:=e;refine WL.nil (A _ _ _ (m ?_));refine zS λ_ z=>?_;(first|refine zi rfl rfl ?_|refine zo rfl rfl ?_);refine zm rfl (zz (z ?_));refine ⟨rfl,(i+1,L.set i ((l.getD i 0+l.getD (i+1) 0*4294967296)/2^s%4294967296)),?_,?_,?_⟩
   ·exact SLp
   ·exact ⟨d.step hs f oO rfl,c,a⟩
   show l.length-(i+1)<l.length-i;omega
  have a8:l.getD (i+1) 0=0:=zJ oO;have e0:(l.getD i 0)=l.getD i 0+l.getD (i+1) 0*4294967296:=by omega
  refine zkk (k ?_);refine zR λ_ y=>?_;refine zm rfl (zm rfl (zm rfl ?_));rw[show (Value.int IntKind.u64 ((l.getD i 0:Nat):Int))=Value.int IntKind.u64 ((l.getD i 0+l.getD (i+1) 0*4294967296:Nat):Int) from congrArg (λq:Nat=>Value.int IntKind.u64 (q:Int)) e0];refine zm rfl ?_;have V:(l.getD i 0+l.getD (i+1) 0*4294967296)/2^s<=l.getD i 0+l.getD (i+1) 0*4294967296:=Nat.div_le_self _ _;have U:=f.getD (i+1);refine WL.ev (Ev.atx rfl rfl (by simp only[IntKind.bits];omega)) rfl ?_;refine WL.ev (Ev.tZ rfl rfl) rfl ?_;refine WL.ev (Ev.ixB (i) rfl rfl oO oO) rfl ?_;refine WL.sJ rfl rfl c oF λa0 e o=>?_;have a:=a.s1 o;have c:=e;refine WL.nil (y _ _ _ (m ?_));refine zS λ_ x=>?_;(first|refine zi rfl rfl ?_|refine zo rfl rfl ?_);refine zm rfl (zz (x ?_));refine ⟨rfl,(i+1,L.set i ((l.getD i 0+l.getD (i+1) 0*4294967296)/2^s%4294967296)),?_,?_,?_⟩
  ·exact SLp
  ·exact ⟨d.step hs f oO rfl,c,a⟩
  show l.length-(i+1)<l.length-i;omega
 refine CW.exit ?_;refine Q (Sr λ_ C=>zm rfl (za rfl (zz (C ?_))));refine zr (zr1 rfl rfl ?_);have I:i=l.length:=by omega
 subst I;exact ⟨L,NU.mJ c d.w oO oO (Nat.le_refl _),d.done f,a⟩
structure KM(la lb:List Nat)(w:World)(b:Nat)(g:Nat×List Nat)(wr:World):Prop where
  a:dvj la lb g.1 g.2
  ob:OB wr b 162 g.2
  chg:Chg [] w wr
structure KN(x:Nat)(lb:List Nat)(i:Nat)(L0:List Nat)(w:World)(b:Nat)(g:Nat×List Nat×Nat)(wr:World):Prop where
  a:cpq x lb i L0 g.1 g.2.1 g.2.2
  ob:OB wr b 162 g.2.1
  chg:Chg [] w wr
theorem times_spec(va vb:Value)(f e:List Nat)(w:World)(ha:NU w va f)(hb:NU w vb e)(c8:f.length+e.length<=70368744177664):Ret Tryz.prog 211 [va,vb] w λu w'=>∃ L,NU w' u L/\L.length=f.length+e.length/\val L=val f*val e/\Chg [] w w':=by
 obtain ⟨⟨a3,a2,rfl,a5,q⟩,m,c4⟩:=ha;obtain ⟨⟨z,y,rfl,a4,p⟩,n,c3⟩:=hb;have d:=crf w;refine zE2 Tryz.func211 rfl ?_;refine Sr λ_ b0=>za rfl (zz (b0 (Sr λ_ a9=>zm rfl (zn rfl (zm rfl (zn rfl ?_))))));(first|refine zi rfl rfl ?_|refine zo rfl rfl ?_);refine WL.baj (((f).length+(e).length)) (((f).length+(e).length)) rfl rfl oO oO oO oO oO rfl λo b6 a v r=>?_;have A:=Nat.le_trans d.size r;have d:=d.ta v;refine za rfl (zz (a9 (zc λ_ a8=>Sr λ_ a7=>zm rfl (zn rfl (zm rfl (zz (a7 (CW.block ?_))))))));refine CW.loop (S:=λg:Nat×List Nat=>[(1,.slice z e.length y),(5,.slice (some ⟨o,0,none⟩) (f.length+e.length) (f.length+e.length)),(18,.slice a3 f.length a2),(19,.int .i64 (f.length:Int)),(20,.int .i64 (g.1:Int))]) (Inv:=KM f e w o) (mu:=λg=>f.length-g.1) ((0,List.replicate (f.length+e.length) 0)) ?_ ?_ ?_
 ·exact ⟨dvj.zero f e,a,d⟩
 ·exact SLp
 rintro ⟨i,L0⟩ wr ⟨k,a,d⟩;dsimp only at k a d;have d0:=k.le;have d3:=k.len;refine Sr λ_ a6=>zL rfl rfl (zz (a6 (zc λ_ X=>?_)));refine zy rfl ?_ ?_<;>intro b2<;>try simp only[qs] at b2
 ·refine zkk (X (zc λ_ V=>CW.block (Sr λ_ U=>zm rfl ?_)));refine WL.ev (Ev.ixR (i) rfl rfl (q.q5 d) oO oO oT) rfl ?_
  refine WL.ev (Ev.load rfl rfl ((q.q5 d).u32 oF)) rfl ?_;have c2:=m.getD (i);refine za rfl (za rfl (zz (U (Sr λ_ T=>za rfl (zz (T (zc λ_ R=>Sr λ_ Q=>zm rfl (zn rfl (zm rfl (zz (Q (CW.block ?_))))))))))));refine CW.loop (S:=λg:Nat×List Nat×Nat=>[(1,.slice z e.length y),(5,.slice (some ⟨o,0,none⟩) (f.length+e.length) (f.length+e.length)),(6,.int .i64 (i:Int)),(7,.int .u32 ((f.getD i 0:Nat):Int)),(8,.int .u64 (g.2.2:Int)),(18,.slice a3 f.length a2),(19,.int .i64 (f.length:Int)),(20,.int .i64 (i:Int)),(25,.slice z e.length y),(26,.int .i64 (e.length:Int)),(27,.int .i64 (g.1:Int))]) (Inv:=KN (f.getD i 0) e i L0 w o) (mu:=λg=>e.length-g.1) ((0,L0,0)) ?_ ?_ ?_
  ·exact ⟨cpq.zero k.w,a,d⟩
  ·exact SLp
  rintro ⟨j,L,c⟩ c6 ⟨x,a,d⟩;dsimp only at x a d;have c9:=x.le;have c5:=x.len;have a1:=x.w;have a0:=x.c1;refine Sr λ_ O=>zL rfl rfl (zz (O (zc λ_ M=>?_)));refine zy rfl ?_ ?_<;>intro b1<;>try simp only[qs] at b1
  ·have l:=cpq.fits (m.getD i) (n.getD j) (a1.getD (i+j)) a0
   have c7:=m.getD i;refine zkk (M (zc λ_ J=>CW.block (Sr λ_ I=>zm rfl ?_)));refine WL.ev (Ev.ixR (j) rfl rfl (p.q5 d) oO oO oT) rfl ?_;refine WL.ev (Ev.load rfl rfl ((p.q5 d).u32 oF)) rfl ?_;have c0:=n.getD (j);refine za rfl (za rfl (zz (I (Sr λ_ H=>zm rfl ?_))));refine WL.ev (Ev.dZ rfl rfl (iZ oO)) rfl ?_;refine zm rfl ?_;refine WL.ev (Ev.dZ rfl rfl (iZ oO)) rfl ?_;refine WL.ev (Ev.mul64In rfl rfl l.2.1) rfl ?_;refine zm rfl (zm rfl (zm rfl ?_));(first|refine zi rfl rfl ?_|refine zo rfl rfl ?_);refine WL.ev (Ev.ixB ((i+j)) rfl rfl oO oO) rfl ?_;refine WL.ev (Ev.load rfl rfl (a.u32 oF)) rfl ?_;have b9:=a1.getD ((i+j));refine WL.ev (Ev.dZ rfl rfl (iZ oO)) rfl ?_;refine WL.ev (Ev.iX rfl rfl l.2.2) rfl ?_;refine zm rfl ?_;refine WL.ev (Ev.iX rfl rfl l.1) rfl ?_;refine za rfl (zz (H ?_));refine zR λ_ F=>?_;refine zm rfl (zm rfl (zm rfl ?_));(first|refine zi rfl rfl ?_|refine zo rfl rfl ?_);refine zm rfl ?_;refine WL.ev (Ev.tZ rfl rfl) rfl ?_;refine zm rfl ?_;refine WL.ev (Ev.atx (b:=32) rfl rfl (by simp only[IntKind.bits];exact l.1)) rfl ?_;refine WL.ev (Ev.ixB ((i+j)) rfl rfl oO oO) rfl ?_;refine WL.sJ rfl rfl a oF λb5 h t=>?_;have d:=d.s1 t;have a:=h;refine za rfl ?_;refine WL.nil (F _ _ _ (J ?_));refine zS λ_ D=>?_;(first|refine zi rfl rfl ?_|refine zo rfl rfl ?_);refine zm rfl (zz (D ?_));refine ⟨rfl,(j+1,L.set (i+j) ((f.getD i 0*e.getD j 0+L.getD (i+j) 0+c)%4294967296),(f.getD i 0*e.getD j 0+L.getD (i+j) 0+c)/4294967296),?_,?_,?_⟩
   ·exact SLp
   ·exact ⟨x.step (m.getD i) n oO oO,a,d⟩
   show e.length-(j+1)<e.length-j;omega
  have Y:j=e.length:=by omega
  subst Y;refine CW.exit ?_;refine R ?_;refine zR λ_ C=>?_;refine zm rfl (zm rfl (zm rfl (zn rfl ?_)));(first|refine zi rfl rfl ?_|refine zo rfl rfl ?_);refine zm rfl ?_;refine WL.ev (Ev.tZ rfl rfl) rfl ?_;rw[Nat.mod_eq_of_lt a0];refine WL.ev (Ev.ixB ((i+(e).length)) rfl rfl oO oO) rfl ?_;refine WL.sJ rfl rfl a oF λb4 h s=>?_;have d:=d.s1 s;have a:=h;refine WL.nil (C _ _ _ (V ?_));refine zS λ_ B=>?_;(first|refine zi rfl rfl ?_|refine zo rfl rfl ?_);refine zm rfl (zz (B ?_));refine ⟨rfl,(i+1,L.set (i+e.length) c),?_,?_,?_⟩
  ·exact SLp
  ·exact ⟨k.step oO x,a,d⟩
  show f.length-(i+1)<f.length-i;omega
 refine CW.exit ?_;refine a8 (Sr λ_ G=>zm rfl (za rfl (zz (G ?_))));refine zr (zr1 rfl rfl ?_);have Z:i=f.length:=by omega
 subst Z;exact ⟨L0,NU.mJ a k.w oO oO (Nat.le_refl _),by omega,k.done,d⟩
theorem Mul_spec(A z:Value)(e d:List Nat)(w:World)(H:NU w A e)(G:NU w z d):Ret Tryz.prog 136 [A,z] w λu w'=>(((wd (val e)).length<=8192/\(wd (val d)).length<=8192/\(wd (val e*val d)).length<=8192/\∃ r,u = .tuple [r,.int .i64 0].toArray/\NU w' r (wd (val e*val d)))\/(¬((wd (val e)).length<=8192/\(wd (val d)).length<=8192/\(wd (val e*val d)).length<=8192)/\u = .tuple [.slice none 0 0,.int .i64 2].toArray))/\Chg [] w w':=by
 have b:=crf w;refine zE2 Tryz.func136 rfl ?_;refine Sr λ_ o=>za rfl (za rfl (zz (o (Sr λ_ g=>zm rfl (zm rfl ?_)))));refine WL.call hasF209 rfl rfl (cwq _ _ _ _ _ H G) λv D a=>?_;obtain ⟨a,rfl⟩:=a;rcases a with ⟨c,x,y,rfl,q,p⟩|⟨F,rfl⟩
 ·refine zm rfl (zx rfl rfl (zx rfl rfl (zx rfl rfl (za rfl (za rfl (za rfl (zz (g (zc λ_ n=>Sr λ_ m=>zm rfl (zN rfl rfl (zz (m ?_))))))))))));refine CW.oX rfl ?_;refine zkk (n (Sr λ_ f=>zm rfl (zm rfl ?_)));refine WL.call hasF211 rfl rfl (times_spec _ _ _ _ _ q p oO) λv I a=>?_;obtain ⟨L,t,_,j,l⟩:=a;have b:=b.trans l;rw[g6,g6] at j;refine WL.call hasF210 rfl rfl (b7x _ _ _ t) λv C a=>?_;obtain ⟨a,rfl⟩:=a;rw[j] at a;rcases a with ⟨k,r,rfl,s⟩|⟨k,rfl⟩
  ·refine zx rfl rfl (zx rfl rfl (za rfl (za rfl (zz (f ?_)))));refine zr (zr2 rfl rfl rfl ?_);exact ⟨.inl ⟨c.1,c.2,k,r,rfl,s⟩,b⟩
  refine zx rfl rfl (zx rfl rfl (za rfl (za rfl (zz (f ?_)))));refine zr (zr2 rfl rfl rfl ?_);exact ⟨.inr ⟨by omega,rfl⟩,b⟩
 refine zm rfl (zx rfl rfl (zx rfl rfl (zx rfl rfl (za rfl (za rfl (za rfl (zz (g (zc λ_ B=>Sr λ_ i=>zm rfl (zN rfl rfl (zz (i ?_))))))))))));refine CW.nZ rfl ?_;refine Sr λ_ h=>zm rfl (za rfl (za rfl (zz (h ?_))));refine zr (zr2 rfl rfl rfl ?_);exact ⟨.inr ⟨by omega,rfl⟩,Chg.refl _ _⟩
def a7q(n:Nat)(s:Int):Nat:=if s<0 then n/2^(-s).toNat else n*2^s.toNat
theorem cej(n q:Nat)(h:0<q):a7q n (-(q:Int))=n/2^q:=by
  unfold a7q;rw[if_pos oO,show (- -(q:Int)).toNat=q by omega]
theorem apq(n q:Nat):a7q n (q:Int)=n*2^q:=by
  unfold a7q;rw[if_neg oO,show (q:Int).toNat=q by omega]
theorem daj{n:Nat}{s:Int}(h:n=0\/s<=-(bl n:Int)):a7q n s=0:=by
  rcases h with rfl|h
  · unfold a7q;split<;>simp
  · by_cases h0:n=0
    · subst h0;unfold a7q;split<;>simp
    · have:=bjq h0
      obtain ⟨q,rfl⟩ : ∃ q:Nat,s = -(q:Int):=⟨(-s).toNat,by omega⟩
      rw[cej _ _ oO]
      exact Nat.div_eq_of_lt (uJ.1 oO)
theorem d8q{n q:Nat}: n/2^(32*(q/32))/2^(q%32)=n/2^q:=by
  rw[Nat.div_div_eq_div_mul,<- Nat.pow_add,show 32*(q/32)+q%32=q by omega]
theorem bbj{n k:Nat}: bl n<=32*k↔(wd n).length<=k:=by rw[uJ,aQ]
theorem aqx(v:Value)(l:List Nat)(s:Int)(w:World)(h:NU w v l)(hs : -9223372036854775808<=s/\s<=9223372036854775807):Ret Tryz.prog 167 [v,.int .i64 s] w λu w'=>((((wd (val l)).length<=8192/\(val l=0\/s<=262144-(bl (val l):Int)))/\∃ r,u = .tuple [r,.int .i64 0].toArray/\NU w' r (wd (a7q (val l) s)))\/(¬(((wd (val l)).length<=8192/\(val l=0\/s<=262144-(bl (val l):Int))))/\u = .tuple [.slice none 0 0,.int .i64 2].toArray))/\Chg [] w w':=by
 obtain ⟨A,p⟩ : ∃ A,A=wd (val l):=⟨_,rfl⟩;have f:val A=val l:=by rw[p];exact g6 _
 have a0:=bbj (n:=val l) (k:=8192);have d8:=adj (n:=val l);rw[<- p] at a0;have d9:bl (val l)<=32*A.length:=by rw[bbj,<- p];exact Nat.le_refl _
 have a:=crf w;refine zE2 Tryz.func167 rfl ?_;refine Sr λ_ b5=>za rfl (za rfl (zz (b5 (Sr λ_ b4=>zm rfl ?_))));refine WL.call hasF212 rfl rfl (a2q _ _ _ h) λv w1 c=>?_;obtain ⟨d,rfl⟩:=c;rw[<- p] at d;obtain ⟨⟨a1,c1,rfl,i,Z⟩,G,b8⟩:=d;refine za rfl (zz (b4 (zc λ_ b3=>CW.block (Sr λ_ b2=>zm rfl (zn rfl (zG rfl rfl (za rfl (zz (b2 ?_)))))))));refine zy rfl ?_ ?_<;>intro c6<;>try simp only[qs] at c6
 ·refine Sr λ_ b1=>za rfl (za rfl (zz (b1 ?_)));refine zr (zr2 rfl rfl rfl ?_);rw[<- p];exact ⟨.inr ⟨by omega,rfl⟩,a⟩
 have d:NU w (.slice a1 A.length c1) A:=NU.acq Z G b8 rfl i;have e0:A.length=0↔val l=0:=by rw[<- f];rw[p];rw[g6];rw[List.length_eq_zero_iff,rZ]
 refine Sr λ_ t=>zm rfl (zn rfl (zq rfl rfl (zm rfl ?_)));refine zb ?_ ?_<;>intro b9<;>try simp only[qs] at b9
 ·refine zv rfl (zv rfl (zv rfl (zv rfl (zv rfl (zt rfl rfl (za rfl (zz (t ?_))))))));refine CW.nZ rfl ?_
  refine Sr λ_ V=>za rfl (za rfl (zz (V ?_)));refine zr (zr2 rfl rfl rfl ?_);have h0:val l=0:=by omega
  rw[daj (.inl h0),eJ,<- p];exact ⟨.inl ⟨⟨by omega,.inl h0⟩,_,rfl,NU.nil⟩,a⟩
 refine zw rfl (zm rfl (zw rfl (zm rfl (zw rfl ?_))));refine WL.call hasF139 rfl rfl (a3x _ _ _ d) λv w2 c=>?_;obtain ⟨rfl,rfl⟩:=c;rw[f];refine zw rfl ?_;refine WL.ev (Ev.bnq rfl oO) rfl ?_;refine zw rfl (zQ rfl rfl (ze rfl rfl (za rfl (zz (t ?_)))));refine zy rfl ?_ ?_<;>intro c5<;>try simp only[qs] at c5
 ·refine Sr λ_ U=>za rfl (za rfl (zz (U ?_)));refine zr (zr2 rfl rfl rfl ?_);rw[daj (.inr oO),eJ,<- p];exact ⟨.inl ⟨⟨by omega,.inr oO⟩,_,rfl,NU.nil⟩,a⟩
 refine Sr λ_ T=>zm rfl (zL rfl rfl (za rfl (zz (T ?_))));refine zy rfl ?_ ?_<;>intro c4<;>try simp only[qs] at c4
 ·obtain ⟨q,rfl⟩ : ∃ q:Nat,s = -(q:Int):=⟨(-s).toNat,by omega⟩
  have a5:NU w (.slice (cutAt a1 (q/32) c1 1) (A.length-q/32) (c1-q/32)) (A.drop (q/32)):=NU.acq (by rw[List.map_drop];exact Z.cut _ _ oT (by simpa using i)) (G.drop _) oT oS oO;refine Sr λ_ R=>zm rfl (zm rfl ?_);refine WL.ev (Ev.bnq rfl oO) rfl ?_;rw[Int.neg_neg];refine WL.ev (Ev.djj (b:=32) rfl rfl oO (tQ oO).2) rfl ?_;refine WL.ev (Ev.bqq ((q/32)) rfl rfl oO oO) rfl ?_;refine zm rfl ?_;refine WL.ev (Ev.bnq rfl oO) rfl ?_;rw[Int.neg_neg];refine WL.ev (Ev.dfx (b:=32) rfl rfl oO) rfl ?_;refine WL.call hasF227 rfl rfl (down_spec _ _ _ _ a5 oO) λv w3 c=>?_;obtain ⟨L,H,e,a7⟩:=c;have a:=a.trans a7;rw[cjx G _ oO,f,d8q] at e;refine WL.call hasF206 rfl rfl (b8q _ _ _ H) λv w4 c=>?_;obtain ⟨a3,a6⟩:=c;have a:=a.trans a6;rw[e] at a3;refine za rfl (za rfl (zz (R ?_)));refine zr (zr2 rfl rfl rfl ?_);rw[cej _ _ oO,<- p];exact ⟨.inl ⟨⟨by omega,.inr oO⟩,_,rfl,a3⟩,a⟩
 obtain ⟨q,rfl⟩ : ∃ q:Nat,s=(q:Int):=⟨s.toNat,by omega⟩;refine Sr λ_ Q=>zm rfl (zm rfl ?_);refine WL.call hasF139 rfl rfl (a3x _ _ _ d) λv w5 c=>?_;obtain ⟨rfl,rfl⟩:=c;rw[f]
 first|refine WL.ev (Ev.dX rfl rfl oO) rfl ?_|refine WL.ev (Ev.sub rfl rfl) rfl ?_
 refine zG rfl rfl (za rfl (zz (Q ?_)));refine zy rfl ?_ ?_<;>intro c3<;>try simp only[qs] at c3
 ·refine Sr λ_ O=>za rfl (za rfl (zz (O ?_)));refine zr (zr2 rfl rfl rfl ?_);rw[<- p];exact ⟨.inr ⟨by omega,rfl⟩,a⟩
 refine zkk (b3 (Sr λ_ M=>zm rfl ?_));refine WL.ev (Ev.djj (b:=32) rfl rfl oO (tQ oO).2) rfl ?_;refine zm rfl ?_;refine WL.ev (Ev.djj (b:=32) rfl rfl oO (tQ oO).2) rfl ?_;refine zm rfl (zn rfl ?_);(first|refine zi rfl rfl ?_|refine zo rfl rfl ?_);(first|refine zi rfl rfl ?_|refine zo rfl rfl ?_);refine WL.baj ((q/32)) ((((q/32)+(A).length)+1)) rfl rfl oO oO oO oO oO rfl λa9 d0 o F B=>?_;have I:=Nat.le_trans a.size B;have a:=a.ta F;refine za rfl (zz (M (Sr λ_ J=>zm rfl (zm rfl (zm rfl ?_)))));refine WL.ev (Ev.dfx (b:=32) rfl rfl oO) rfl ?_;refine WL.call hasF228 rfl rfl (up_spec _ _ _ _ (d.q5 a) oO oO) λv w6 c=>?_;obtain ⟨L,H,d5,e,z⟩:=c;have a:=a.trans z;have o:=o.k0 z;obtain ⟨⟨a2,c2,rfl,c0,Y⟩,c7,d6⟩:=H;rw[f] at e;obtain ⟨e5,rfl⟩:=Y.some_ oT;have x:=d4q (k:=q/32) o oT oT;rw[List.length_replicate] at x;refine WL.append (m:=q/32) (mm:=L.length) (news:=L.map kQ) (by rfl) oD rfl rfl x oS (λj u hu=>by obtain ⟨e4,e3,h3⟩:=Y j u hu;cases e3;exact h3) (u32_one _) (by unfold maxLen;omega) oO rfl λd3 d2 g D b0=>?_;have C : ∀ y∈(Value.slice (some ⟨a9,0,none⟩) (q/32) (q/32+A.length+1)).ownBlock.toList,w.heap.size<=y:=λy hy=>by
  have b6:y=a9:=by simpa[Value.ownBlock] using hy
  subst b6;assumption
 have a:=a.step D (λy hy=>.inr (C y hy));rw[<- List.map_append] at g;have a4:=NU.dlx g (aoq.2 ⟨(oZ _).take _,c7⟩) oT;have X:val ((List.replicate (q/32+A.length+1) 0).take (q/32)++L)=val l*2^q:=by
  rw[List.take_replicate,show min (q/32) (q/32+A.length+1)=q/32 by omega,ayx,agx,List.length_replicate,e,Nat.zero_add,Nat.mul_left_comm,<- Nat.pow_add,show 32*(q/32)+q%32=q by omega]
 refine WL.call hasF210 rfl rfl (b7x _ _ _ a4) λv w7 c=>?_;obtain ⟨c,rfl⟩:=c;rw[X] at c;obtain ⟨d7,r,rfl,c8⟩:=c.resolve_right (λq1=>by
  have q2:=q1.1;have q3:(wd (val l*2^q)).length<=8192:=by
   refine bbj.1 ?_
   by_cases h0:val l=0
   · rw[h0];simp[bl_zero]
   rw[adq h0];omega
  omega)
 refine zx rfl rfl (zx rfl rfl (za rfl (za rfl (zz (J ?_)))));refine zr (zr2 rfl rfl rfl ?_);rw[apq,<- p];exact ⟨.inl ⟨⟨by omega,.inr oO⟩,r,rfl,c8⟩,a⟩
def GR(w:World)(e:TypeId)(f:Nat->Value)(lo:Nat)(X:List Nat)(v:Value)(l:List Nat):Prop:=
  w.ownsRow 0 e 1 v l.length (l.map f)/\∀ b,v.ownBlock=some b->lo<=b/\b∉X
section
variable {w w':World} {e:TypeId} {f:Nat->Value} {lo:Nat} {X:List Nat} {v:Value} {l:List Nat}
theorem GR.nil:GR w e f lo X (.slice none 0 0) []:=⟨⟨rfl,.inl ⟨rfl,rfl⟩⟩,λb h=>by cases h⟩
theorem GR.lt(h:GR w e f lo X v l){b:Nat}(a:v.ownBlock=some b):b<w.heap.size:=own_lt h.1 a
theorem GR.gZ{T:List Nat}(h:GR w e f lo X v l)(a:Chg T w w')(hT : ∀ b∈T,b∈X\/b<lo\/w.heap.size<=b):GR w' e f lo X v l:=
  ⟨own_keep h.1 a λb hb hm=>by
    obtain ⟨h1,h2⟩:=h.2 b hb
    have h3:=h.lt hb
    rcases hT b hm with q|q|q
    · exact h2 q
    · omega
    · omega,h.2⟩
theorem GR.q5(h:GR w e f lo X v l)(a:Chg [] w w'):GR w' e f lo X v l:=h.gZ a oS
theorem GR.one(h:GR w e f lo X v l):v.oneCell'=true:=by
  obtain ⟨a,c,rfl⟩:=own_form h.1;rfl
theorem GR.row(h:GR w e f lo X v l): ∃ a c,v = .slice a l.length c/\l.length<=c/\RW w a (l.map f):=by
  rcases bmx h.1 with ⟨rfl,i,j⟩|⟨g,b,rfl,d,_,_⟩
  · have:l=[]:=List.length_eq_zero_iff.1 i
    subst this
    exact ⟨none,0,rfl,Nat.le_refl _,RW.nil⟩
  · exact ⟨_,b,rfl,d,RW.dlx h.1⟩
theorem GR.nu(h:GR w e kQ lo X v l)(b:W l)(a:l.length<=70368744177664):NU w v l:=NU.dlx h.1 b a
theorem GR.of_OB{b k:Nat}(h:OB w b e l)(d:k<=l.length)(c:l.length<=281474976710656)(a:lo<=b)(f:b∉X):GR w e kQ lo X (.slice (some ⟨b,0,none⟩) k l.length) (l.take k):=
  ⟨by have:=d4q h d c;rwa [show (l.take k).length=k by rw[List.length_take];omega],λb' hb=>by cases hb;exact ⟨a,f⟩⟩
theorem GR.frame{T:List Nat}{a:World}(h:GR w e f lo X v l)(g:Chg v.ownBlock.toList w w')(d:Chg T a w)(c:a.heap.size<=lo):Chg T a w':=
  d.step g λy hy=>.inr (by
    cases hv:v.ownBlock with
    | none=>rw[hv] at hy;cases hy
    | some b => rw [hv] at hy; have : y = b := by simpa using hy
                subst this;have:=(h.2 y hv).1;omega)
theorem GR.notin(h:GR w e f lo X v l){b:Nat}(a:b∈X\/b<lo):b∉v.ownBlock.toList:=λhm=>by
  cases hv:v.ownBlock with
  | none=>rw[hv] at hm;cases hm
  | some c=>
    rw[hv] at hm
    have:b=c:=by simpa using hm
    subst this
    obtain ⟨h1,h2⟩:=h.2 b hv
    rcases a with q|q
    · exact h2 q
    · omega
end
section
variable {P:Program} {n:Nat} {D:List Deferred} {s:Sl} {w:World} {ops:Array Oper} {K:KK} {rest:List Oper} {ty:TypeId} {pos:String} {af:Array Edge} {d:Nat} {x y:Operand}
theorem Ev.append00{t e f p:Nat}{l:TypeDesc}{ze:Value}{h d:Nat}{z:Value}{v:Value}{m c:Nat}{xs:List Value}[hT:aZ P t (.slice e) h d z][hE:aZ P e l f p ze]
    (k:g8 s x=some v) (j:g8 s y=some (.slice none 0 c)) (a:w.ownsRow 0 e f v m xs) :
    Ev P s (.call ⟨.builtin .append,[x,y].toArray,#[t,t]⟩) ty w v w:=λρ d' pos af g hρ=>by
  obtain ⟨i,hi,hi1,hi2,hi3⟩:=hE.inf
  have e1:=hρ x _ k
  have e2:=hρ y _ j
  have:(Builtin.append_ #[t,t] ty #[v,.slice none 0 c]).run P w = .ok v w:=by
    rcases a.2 with ⟨rfl,rfl⟩|⟨g,o,n,rfl,_,_,b,_⟩
    · simp[Builtin.append_,run_underlying hT.und,sizeOf,typeInfo,hi,Builtin.lenOf,Builtin.firstCells]
    · simp[Builtin.append_,run_underlying hT.und,sizeOf,typeInfo,hi,Builtin.lenOf,Builtin.firstCells,b,storeCells]
  simp[execOp,resolve,invoke,builtin,e1,e2,this]
theorem WL.c0x{t e Q:Nat}{de:TypeDesc}{ze:Value}{R H:Nat}{z:Value}{v:Value}{f:Nat->Value}{lo:Nat}{X:List Nat}{l news:List Nat}{a:Option Addr}{mm c:Nat}[hT:aZ P t (.slice e) R H z][hE:aZ P e de 1 Q ze]
    (A:ze.cells.size=1) (h1 : ∀ i,(f i).oneCell'=true) (J:g8 s x=some v) (I:g8 s y=some (.slice a mm c)) (o:GR w e f lo X v l) (m:mm=news.length) (M:RW w a (news.map f)) (F:lo<=w.heap.size) (Z : ∀ b∈X,b<w.heap.size)
    (g:(l.length+news.length)*Q<=140737488355328) (a0:l.length+news.length<=140737488355328) (O:Nat.blt d n=true)
    (k : ∀ v' w',GR w' e f lo X v' (l++news)->Chg v.ownBlock.toList w w'->WL P ops K rest n D ((d,v')::s) w') :
    WL P ops K (⟨some d,.call ⟨.builtin .append,[x,y].toArray,#[t,t]⟩,ty,pos,af,none⟩::rest) n D s w:=by
  cases a with
  | some ad=>
    refine WL.append (news:=news.map f) A oO J I o.1 oT (λj u B=>?_) (λu B=>?_) (by unfold maxLen;omega) (by rw[m];exact g) O λv' w' T Y V=>?_
    · obtain ⟨a3,G,h⟩:=M j u B
      cases G;exact h
    · obtain ⟨i,_,rfl⟩:=List.mem_map.1 B
      exact h1 i
    · refine k v' w' ⟨by rw[List.length_append,List.map_append,<- m];exact T,λb p=>?_⟩ Y
      rcases V with q|q
      · rw[q] at p;exact o.2 b p
      · rw[q] at p;cases p;exact ⟨F,λm=>Nat.lt_irrefl _ (Z _ m)⟩
  | none=>
    have U:news=[]:=by
      cases news with
      | nil=>rfl
      | cons u r=>obtain ⟨ad,G,_⟩:=M 0 (f u) rfl;cases G
    subst U
    have C:mm=0:=m
    subst C
    refine WL.ev (Ev.append00 J I o.1) O (k v w ?_ (Chg.refl _ _))
    rw[List.append_nil];exact o
end
def GRc(w:World)(e:TypeId)(es:Nat)(lo:Nat)(X:List Nat)(v:Value)(m:Nat)(l:List Value):Prop:=
  w.ownsRow 0 e es v m l/\∀ b,v.ownBlock=some b->lo<=b/\b∉X
end
section
open Go Sx Wd
set_option exponentiation.threshold 5000
structure cpj(l:List Nat)(q s i:Nat)(L:List Nat)(c:Nat):Prop where
  le:i<=l.length
  len:L.length=q+i
  w:W L
  cl:c<2^s
  eq:val L+2^(32*(q+i))*c=2^(32*q)*(val (l.take i)*2^s)
theorem cpj.zero(l:List Nat)(q s:Nat):cpj l q s 0 (List.replicate q 0) 0:=⟨Nat.zero_le _,by simp,oZ _,Nat.two_pow_pos _,by rw[agx];simp[val]⟩
theorem lift_or{c x s:Nat}(b:c<2^s)(a:x<4294967296)(e:s<32):c||| (x*2^s%18446744073709551616)=c+x*2^s/\c+x*2^s<4294967296*2^s/\c+x*2^s<18446744073709551616:=by
  have d:(x+1)*2^s<=4294967296*2^s:=Nat.mul_le_mul_right _ a
  have f:2^s<=2^31:=Nat.pow_le_pow_right oD oO
  rw[Nat.add_mul,Nat.one_mul] at d
  rw[Nat.mod_eq_of_lt oO,agj b]
  omega
theorem cpj.step{l L:List Nat}{q s i c t:Nat}(h:cpj l q s i L c)(k:W l)(b:i<l.length)(j:s<32)(a:t=c+l.getD i 0*2^s):cpj l q s (i+1) (L++[t%4294967296]) (t/2^32):=by
  obtain ⟨u,f,o,n,m⟩:=h
  have g:=k.getD i
  obtain ⟨_,d,_⟩:=lift_or n g j
  rw[<- a] at d
  refine ⟨b,by simp[f];omega,aoq.2 ⟨o,yX.2 ⟨Nat.mod_lt _ oD,awj⟩⟩,by rw[show (2:Nat)^32=4294967296 from rfl];exact Nat.div_lt_of_lt_mul d,?_⟩
  rw[bwx,f,amq b,show 32*(q+(i+1))=32*(q+i)+32 by omega,Nat.pow_add 2 (32*(q+i)) 32,show (2:Nat)^32=4294967296 from rfl]
  have e:=Nat.div_add_mod t 4294967296
  have r:2^(32*(q+i))*(t%4294967296)+2^(32*(q+i))*4294967296*(t/4294967296)=2^(32*(q+i))*t:=by
    rw[Nat.mul_assoc,<- Nat.mul_add];congr 1;omega
  have p:2^(32*q)*((val (l.take i)+2^(32*i)*l.getD i 0)*2^s)=2^(32*q)*(val (l.take i)*2^s)+2^(32*(q+i))*(l.getD i 0*2^s):=by
    rw[Nat.add_mul,Nat.mul_add,Nat.mul_add 32,Nat.pow_add];congr 1;ac_rfl
  rw[p,<- m,Nat.add_assoc,r,a,Nat.mul_add]
  omega
theorem cpj.done{l L:List Nat}{q s c:Nat}(h:cpj l q s l.length L c)(e:s<32):val (L++[c%4294967296])=val l*2^(32*q+s)/\W (L++[c%4294967296]):=by
  obtain ⟨i,d,b,g,a⟩:=h
  have f:2^s<=2^31:=Nat.pow_le_pow_right oD oO
  rw[Nat.mod_eq_of_lt oO]
  refine ⟨?_,aoq.2 ⟨b,yX.2 ⟨by omega,awj⟩⟩⟩
  rw[List.take_length] at a
  rw[bwx,d,a,Nat.pow_add]
  ac_rfl
structure K0r(l:List Nat)(w:World)(k:Nat)(wr:World):Prop where
  le:k<=l.length
  vl:val (l.take k)=val l
  eq:w=wr
theorem a4q(v:Value)(l:List Nat)(w:World)(h:NU w v l):Ret Tryz.prog 266 [v] w λu w'=>NU w u (wd (val l))/\w=w':=by
 obtain ⟨⟨x,t,rfl,q,a⟩,c,o⟩:=h;have f:=crf w;refine zE1 Tryz.func266 rfl ?_;refine Sr λ_ n=>za rfl (zz (n (zc λ_ m=>CW.block ?_)));refine CW.loop (S:=λk:Nat=>[(0,.slice x k t)]) (Inv:=K0r l w) (mu:=λk=>k) (l.length) ?_ ?_ ?_
 ·exact ⟨Nat.le_refl _,by rw[List.take_length],rfl⟩
 ·exact SLp
 rintro k _ ⟨b,e,rfl⟩;refine zc λ_ j=>?_;refine CW.oJ 14 (decide (0<k/\l.getD (k-1) 0=0)) ?_ ?_
 ·refine zS λ_ d=>zm rfl (zn rfl (zG rfl rfl (zm rfl ?_)));refine zb ?_ ?_<;>intro p<;>try simp only[qs] at p
  ·refine zw rfl (zm rfl (zw rfl (zm rfl (zw rfl (zn rfl (zw rfl ?_))))))
   first|refine WL.ev (Ev.dX rfl rfl oO) rfl ?_|refine WL.ev (Ev.sub rfl rfl) rfl ?_
   refine zw rfl ?_;refine WL.ev (Ev.ixR ((k-1)) rfl rfl (a.q5 f) oO oO oT) rfl ?_;refine zw rfl ?_;refine WL.ev (Ev.load rfl rfl ((a.q5 f).u32 oF)) rfl ?_;have s:=c.getD ((k-1));refine zw rfl (zq rfl rfl (zt rfl rfl (zz (d ?_))));refine ⟨rfl,rfl,q9.g7 rfl ?_ ?_⟩
   ·first|(simp;omega)|(refine decide_eq_decide.2 ?_;omega)
   exact SMg
  refine zv rfl (zv rfl (zv rfl (zv rfl (zv rfl (zv rfl (zv rfl (ze rfl rfl (zz (d ?_)))))))));refine ⟨rfl,rfl,q9.g7 rfl ?_ ?_⟩
  ·first|(simp;omega)|(refine decide_eq_decide.2 ?_;omega)
  exact SMg
 refine zy rfl ?_ ?_<;>intro r<;>try simp only[qs] at r
 ·refine zkk (j (CW.block (zS λ_ g=>zm rfl (zm rfl (zn rfl ?_)))))
  first|refine WL.ev (Ev.dX rfl rfl oO) rfl ?_|refine WL.ev (Ev.sub rfl rfl) rfl ?_
  refine WL.ev (Ev.c4j ((k-1)) rfl rfl oO oO) rfl ?_;refine za rfl (zz (g ?_));refine ⟨rfl,k-1,?_,?_,?_⟩
  ·exact SLp
  ·exact ⟨by omega,by rw[b3x b oO oO];exact e,rfl⟩
  omega
 refine CW.exit ?_;refine m (Sr λ_ i=>zm rfl (za rfl (zz (i ?_))));refine zr (zr1 rfl rfl ?_);rw[cut_wd c b e oO];exact ⟨NU.part a c o b oO,rfl⟩
def cmpS(a b:Int):Int:=if a<b then -1 else if b<a then 1 else 0
theorem d4x(a b:Int)(w:World):Ret Tryz.prog 278 [.int .i64 a,.int .i64 b] w λu w'=>u = .int .i64 (cmpS a b)/\w=w':=by
 refine zE2 Tryz.func278 rfl ?_;refine Sr λ_ l=>za rfl (zz (l (zc λ_ k=>CW.block (Sr λ_ j=>zm rfl (zm rfl (zL rfl rfl (za rfl (zz (j ?_)))))))));refine zy rfl ?_ ?_<;>intro d<;>try simp only[qs] at d
 ·have g:a<b:=d
  refine Sr λ_ i=>za rfl (zz (i ?_));refine zr (zr1 rfl rfl ?_);exact ⟨by unfold cmpS;rw[if_pos g],rfl⟩
 have g : ¬a<b:=by have:=d;omega
 refine Sr λ_ h=>zm rfl (zm rfl (zG rfl rfl (za rfl (zz (h ?_)))));refine zy rfl ?_ ?_<;>intro c<;>try simp only[qs] at c
 ·have m:b<a:=c
  refine Sr λ_ f=>za rfl (zz (f ?_));refine zr (zr1 rfl rfl ?_);exact ⟨by unfold cmpS;rw[if_neg g,if_pos m],rfl⟩
 have m : ¬b<a:=by have:=c;omega
 refine zkk (k (Sr λ_ e=>za rfl (zz (e ?_))));refine zr (zr1 rfl rfl ?_);exact ⟨by unfold cmpS;rw[if_neg g,if_neg m],rfl⟩
structure KLi(l:List Nat)(q s:Nat)(w0:World)(g:Nat×List Nat×Nat×Value)(w:World):Prop where
  m:cpj l q s g.1 g.2.1 g.2.2.1
  gr:GR w 162 kQ w0.heap.size [] g.2.2.2 g.2.1
  ch:Chg [] w0 w
theorem bzj(v:Value)(l:List Nat)(n:Nat)(w:World)(h:NU w v l)(hn:n<1099511627776)(c9:l.length<=1099511627776):Ret Tryz.prog 271 [v,.int .i64 (n:Int)] w λu w'=>NU w' u (wd (val l*2^n))/\Chg [] w w':=by
 obtain ⟨⟨al,cl,rfl,b7,U⟩,B,d0⟩:=h;have a:=crf w;have j:n%32<32:=Nat.mod_lt _ oD;have hp:2^(n%32)<=2^31:=Nat.pow_le_pow_right oD oO;refine zE2 Tryz.func271 rfl ?_;refine Sr λ_ b1=>za rfl (zz (b1 (Sr λ_ b0=>zm rfl ?_)));refine WL.ev (Ev.cax (b:=32) rfl rfl oO (by simp only[IntKind.max,IntKind.signed,IntKind.bits];omega) oO) rfl ?_;rw[show (n:Int)/32=((n/32:Nat):Int) by omega];refine zm rfl ?_;refine WL.ev (Ev.cax (b:=32) rfl rfl oO (by simp only[IntKind.max,IntKind.signed,IntKind.bits];omega) oO) rfl ?_;rw[show (n:Int)/32=((n/32:Nat):Int) by omega];refine zm rfl (zn rfl ?_);(first|refine zi rfl rfl ?_|refine zo rfl rfl ?_);(first|refine zi rfl rfl ?_|refine zo rfl rfl ?_);refine WL.baj (n/32) (n/32+l.length+1) rfl rfl oO oO oO oO oO rfl λc1 c2 a2 y q=>?_;have e:=Nat.le_trans a.size q;have a:=a.ta y;refine za rfl (zz (b0 (Sr λ_ a9=>za rfl (zz (a9 (zc λ_ a8=>Sr λ_ a7=>zm rfl (zn rfl (zm rfl (zz (a7 (CW.block ?_)))))))))));refine CW.loop (S:=λg:Nat×List Nat×Nat×Value=>[(0,.slice al l.length cl),(1,.int .i64 (n:Int)),(5,g.2.2.2),(6,.int .u64 (g.2.2.1:Int)),(18,.slice al l.length cl),(19,.int .i64 (l.length:Int)),(20,.int .i64 (g.1:Int))]) (Inv:=KLi l (n/32) (n%32) w) (mu:=λg=>l.length-g.1) ((0,List.replicate (n/32) 0,0,.slice (some ⟨c1,0,none⟩) (n/32) (n/32+l.length+1))) ?_ ?_ ?_
 ·have a3:=GR.of_OB (lo:=w.heap.size) (X:=[]) (k:=n/32) a2 oT oT (by first|omega|exact e|exact q) oS;rw[List.take_replicate,show min (n/32) (n/32+l.length+1)=n/32 by omega,List.length_replicate] at a3;exact ⟨cpj.zero _ _ _,a3,a⟩
 ·exact SLp
 rintro ⟨i,L,c,vo⟩ wr ⟨F,d,a⟩;dsimp only at F d a;dsimp only;have hi:=F.le;have d3:=F.len;have b6:=F.cl;have b2:=B.getD i;refine Sr λ_ T=>zL rfl rfl (zz (T (zc λ_ R=>?_)));refine zy rfl ?_ ?_<;>intro b8<;>try simp only[qs] at b8
 ·obtain ⟨b3,d2,d1⟩:=lift_or b6 b2 j
  refine zkk (R (zc λ_ Q=>CW.block (Sr λ_ O=>?_)));refine WL.ev (Ev.ixR (i) rfl rfl (U.q5 a) oO oO oT) rfl ?_;refine WL.ev (Ev.load rfl rfl ((U.q5 a).u32 oF)) rfl ?_;have c3:=B.getD (i);refine za rfl (zz (O (Sr λ_ M=>zm rfl (zm rfl ?_))));refine WL.ev (Ev.dZ rfl rfl (iZ oO)) rfl ?_;refine zm rfl ?_;refine WL.ev (Ev.dfq (b:=32) rfl rfl oO oO) rfl ?_;rw[show (n:Int)%32=((n%32:Nat):Int) by omega];refine WL.ev (Ev.dZ rfl rfl (iZ oO)) rfl ?_;refine WL.ev (Ev.apx rfl rfl) rfl ?_;refine WL.ev (Ev.orU rfl rfl rfl (by simp only[IntKind.bits];omega) (by simp only[IntKind.bits];omega)) rfl ?_;rw[b3];refine za rfl (zz (M (Sr λ_ J=>zm rfl (zm rfl ?_))));refine WL.ev (Ev.tZ rfl rfl) rfl ?_;refine WL.buildSlice (m:=1) (cs:=[kQ (((c+l.getD i 0*2^(n%32))%4294967296))]) oD oD rfl oR rfl λc0 a5 p=>?_;have s:=p.chg;have x:=p.ge;have a1:OB a5 c0 _ [((c+l.getD i 0*2^(n%32))%4294967296)]:=p.at_;have D:=Nat.le_trans a.size x;have a:=a.ta s;have d:=d.q5 s;refine WL.c0x (f:=kQ) (lo:=w.heap.size) (X:=[]) (l:=L) (news:=[((c+l.getD i 0*2^(n%32))%4294967296)]) (by rfl) (λi=>rfl) rfl rfl d (by first|rfl|(simp;done)|(simp;omega)|omega) a1.row (by first|omega|exact a.size|exact Nat.le_refl _) oS (by simp only[List.length_append,List.length_cons,List.length_nil];omega) (by simp only[List.length_append,List.length_cons,List.length_nil];omega) rfl λa6 c7 Y A=>?_;have a:=GR.frame d A a (by first|omega|exact Nat.le_refl _);have d:=Y;refine za rfl (zz (J ?_));refine zR λ_ H=>?_;refine zm rfl ?_;refine WL.ev (Ev.atx (b:=32) rfl rfl (by simp only[IntKind.bits];omega)) rfl ?_;refine za rfl ?_;refine WL.nil (H _ _ _ (Q ?_));refine zS λ_ G=>?_;(first|refine zi rfl rfl ?_|refine zo rfl rfl ?_);refine zm rfl (zz (G ?_));refine ⟨rfl,(i+1,L++[(c+l.getD i 0*2^(n%32))%4294967296],(c+l.getD i 0*2^(n%32))/2^32,a6),?_,?_,?_⟩
  ·exact SLp
  ·exact ⟨F.step B oO j rfl,d,a⟩
  show l.length-(i+1)<l.length-i;omega
 have b4:i=l.length:=by omega
 subst b4;obtain ⟨Z,b5⟩:=F.done j;rw[show 32*(n/32)+n%32=n by omega] at Z;refine CW.exit ?_;refine a8 (Sr λ_ I=>zm rfl (zm rfl ?_));refine WL.ev (Ev.tZ rfl rfl) rfl ?_;refine WL.buildSlice (m:=1) (cs:=[kQ ((c%4294967296))]) oD oD rfl oR rfl λb9 a4 o=>?_;have r:=o.chg;have t:=o.ge;have a0:OB a4 b9 _ [(c%4294967296)]:=o.at_;have C:=Nat.le_trans a.size t;have a:=a.ta r;have d:=d.q5 r;refine WL.c0x (f:=kQ) (lo:=w.heap.size) (X:=[]) (l:=L) (news:=[(c%4294967296)]) (by rfl) (λi=>rfl) rfl rfl d (by first|rfl|(simp;done)|(simp;omega)|omega) a0.row (by first|omega|exact a.size|exact Nat.le_refl _) oS (by simp only[List.length_append,List.length_cons,List.length_nil];omega) (by simp only[List.length_append,List.length_cons,List.length_nil];omega) rfl λc8 c6 V z=>?_;have a:=GR.frame d z a (by first|omega|exact Nat.le_refl _);have d:=V;refine WL.call hasF266 rfl rfl (a4q _ _ _ (d.nu b5 oT)) λv w1 h'=>?_;obtain ⟨hN,rfl⟩:=h';rw[Z] at hN;refine za rfl (zz (I ?_));refine zr (zr1 rfl rfl ?_);exact ⟨hN,a⟩
end
section
open Go Sx Wd
set_option exponentiation.threshold 5000
structure KCr(A B:List Nat)(w:World)(k:Nat)(wr:World):Prop where
  le:k<=A.length
  eq:A.drop k=B.drop k
  chg:Chg [] w wr
structure KSr(X Y:List Nat)(w:World)(b:Nat)(g:Nat×List Nat×Nat)(wr:World):Prop where
  a:duq X Y g.1 g.2.1 g.2.2
  ob:OB wr b 162 g.2.1
  chg:Chg [] w wr
theorem cmpS_nat(a b:Nat):cmpS (a:Int) (b:Int)=sgn a b:=by
  unfold cmpS sgn
  by_cases h:a<b
  · rw[if_pos h,if_pos oO]
  · rw[if_neg h,if_neg oO]
    by_cases h2:b<a
    · rw[if_pos h2,if_pos oO]
    · rw[if_neg h2,if_neg oO]
theorem cbx(va vb:Value)(m n:Nat)(w:World)(ha:NU w va (wd m))(hb:NU w vb (wd n)):Ret Tryz.prog 272 [va,vb] w λu w'=>u = .int .i64 (sgn m n)/\Chg [] w w':=by
 have p:=g6 m;have o:=g6 n;have d:=c5x (a:=m) (b:=n);obtain ⟨A,hA⟩ : ∃ A,A=wd m:=⟨_,rfl⟩;obtain ⟨B,hB⟩ : ∃ B,B=wd n:=⟨_,rfl⟩;rw[<- hA] at ha p d;rw[<- hB] at hb o d;obtain ⟨⟨a1,c1,rfl,a0,l⟩,x,b8⟩:=ha;obtain ⟨⟨a2,c2,rfl,Z,j⟩,t,b7⟩:=hb;have c:=crf w;refine zE2 Tryz.func272 rfl ?_;refine Sr λ_ V=>za rfl (zz (V (zc λ_ U=>Sr λ_ T=>zm rfl (zn rfl (zm rfl (zn rfl (zN rfl rfl (zz (T ?_)))))))));refine zy rfl ?_ ?_<;>intro a5<;>try simp only[qs] at a5
 ·refine Sr λ_ R=>zm rfl (zn rfl (zm rfl (zn rfl ?_)));refine WL.call hasF278 rfl rfl (d4x _ _ _) λv w1 h'=>?_
  obtain ⟨rfl,rfl⟩:=h';rw[cmpS_nat];refine za rfl (zz (R ?_));refine zr (zr1 rfl rfl ?_);refine ⟨?_,c⟩;have e:sgn A.length B.length=sgn m n:=by
   rcases Nat.lt_or_gt_of_ne (show A.length≠B.length by omega) with q|q
   · rw[d.1 q];unfold sgn;rw[if_pos q]
   rw[d.2 q];unfold sgn;rw[if_neg oO,if_pos q]
  rw[e]
 have M:A.length=B.length:=by omega
 refine zkk (U (zc λ_ Q=>Sr λ_ O=>zm rfl (zn rfl ?_)))
 first|refine WL.ev (Ev.dX rfl rfl oO) rfl ?_|refine WL.ev (Ev.sub rfl rfl) rfl ?_
 refine za rfl (zz (O (CW.block ?_)));refine CW.loop (S:=λk:Nat=>[(0,.slice a1 A.length c1),(1,.slice a2 B.length c2),(5,.int .i64 ((k:Int)-1))]) (Inv:=KCr A B w) (mu:=λk=>k) (A.length) ?_ ?_ ?_
 ·exact ⟨Nat.le_refl _,by rw[List.drop_length,M,List.drop_length],c⟩
 ·exact SLp
 rintro k wr ⟨b9,r,c⟩;refine zc λ_ J=>Sr λ_ I=>zm rfl ?_;refine WL.ev (Ev.geq rfl rfl) rfl ?_;refine zz (I ?_);refine zy rfl ?_ ?_<;>intro a4<;>try simp only[qs] at a4
 ·have X:k-1+1=k:=by omega
  have i:=ddq x t M (k:=k-1) oO (by rw[X];exact r);rw[p,o] at i;refine zkk (J (zc λ_ H=>CW.block (zc λ_ G=>?_)));refine CW.jQ cJ oR λb0 C s=>?_;have c:=c.ta s;refine ym rfl (ym rfl ?_);refine WS.ev (Ev.ixR ((k-1)) rfl rfl (l.q5 c) oO oO oT) rfl ?_;refine WS.ev (Ev.load rfl rfl ((l.q5 c).u32 oF)) rfl ?_;have b4:=x.getD ((k-1));refine ym rfl (ym rfl ?_);refine WS.ev (Ev.ixR ((k-1)) rfl rfl (j.q5 c) oO oO oT) rfl ?_;refine WS.ev (Ev.load rfl rfl ((j.q5 c).u32 oF)) rfl ?_;have b3:=t.getD ((k-1));refine WS.ev (Ev.neq rfl rfl) rfl ?_;refine WS.nil (C _ _ ?_);refine G ?_;refine zy rfl ?_ ?_<;>intro a3<;>try simp only[qs] at a3
  ·refine zc λ_ F=>?_
   refine CW.bZ 12 rfl cJ λa9 z h s=>?_;have c:=c.ta s;have f:=c;refine wh 0 rfl h (eM rfl) (wh 1 rfl h (eM rfl) (wh 2 rfl h (λ_ g=>Ev.ixR ((k-1)) rfl rfl (l.q5 (f.trans g)) oO oO oT) (wh 3 rfl h (λ_ g=>Ev.load rfl rfl ((l.q5 (f.trans g)).u32 oF)) ?_)));have b2:=x.getD ((k-1));refine wh 4 rfl h (λ_ _=>Ev.dZ rfl rfl (tQ oO)) (wh 5 rfl h (eM rfl) (wh 6 rfl h (eM rfl) (wh 7 rfl h (λ_ g=>Ev.ixR ((k-1)) rfl rfl (j.q5 (f.trans g)) oO oO oT) (wh 8 rfl h (λ_ g=>Ev.load rfl rfl ((j.q5 (f.trans g)).u32 oF)) ?_))));have b1:=t.getD ((k-1));refine wh 9 rfl h (λ_ _=>Ev.dZ rfl rfl (tQ oO)) ?_;refine WH.k6 10 rfl oR hasF278 rfl rfl (d4x _ _ _) λv w2 h'=>?_;obtain ⟨rfl,rfl⟩:=h';rw[cmpS_nat];refine ⟨h,?_⟩;refine wh 11 rfl h (eA rfl) ?_;refine WH.done oR (z _ _ _ ?_);refine F ?_;refine zr (zr1 rfl rfl ?_);refine ⟨?_,c⟩;have e:sgn (A.getD (k-1) 0) (B.getD (k-1) 0)=sgn m n:=by
    rcases Nat.lt_or_gt_of_ne (show A.getD (k-1) 0≠B.getD (k-1) 0 by omega) with q|q
    · rw[i.1 q];unfold sgn;rw[if_pos q]
    rw[i.2.1 q];unfold sgn;rw[if_neg oO,if_pos q]
   rw[e]
  refine zkk (H (zS λ_ y=>zm rfl ?_))
  first|refine WL.ev (Ev.dX rfl rfl oO) rfl ?_|refine WL.ev (Ev.sub rfl rfl) rfl ?_
  refine za rfl (zz (y ?_));refine ⟨rfl,k-1,?_,?_,?_⟩
  ·exact SLp
  ·exact ⟨by omega,i.2.2 oO,c⟩
  omega
 refine CW.exit ?_;refine Q (Sr λ_ D=>za rfl (zz (D ?_)));refine zr (zr1 rfl rfl ?_);have Y:k=0:=by omega
 subst Y;rw[List.drop_zero,List.drop_zero] at r;rw[<- p,<- o,r,dcj];exact ⟨rfl,c⟩
theorem deq(va vb:Value)(d h:List Nat)(w:World)(ha:NU w va d)(hb:NU w vb h)(a4:val h<=val d):Ret Tryz.prog 273 [va,vb] w λu w'=>NU w' u (wd (val d-val h))/\Chg [] w w':=by
 obtain ⟨⟨V,T,rfl,Y,q⟩,k,b7⟩:=ha;obtain ⟨⟨b0,a9,rfl,X,p⟩,j,b6⟩:=hb;have e:=crf w;refine zE2 Tryz.func273 rfl ?_;refine Sr λ_ a3=>za rfl (zz (a3 (Sr λ_ a2=>zm rfl (zn rfl ?_))));refine WL.baj ((d).length) ((d).length) rfl rfl oO oO oO oO oO rfl λU b1 f s r=>?_;have t:=Nat.le_trans e.size r;have e:=e.ta s;refine za rfl (zz (a2 (Sr λ_ a1=>za rfl (zz (a1 (zc λ_ a0=>Sr λ_ Z=>zm rfl (zn rfl (zm rfl (zz (Z (CW.block ?_)))))))))));refine CW.loop (S:=λg:Nat×List Nat×Nat=>[(0,.slice V d.length T),(1,.slice b0 h.length a9),(5,.slice (some ⟨U,0,none⟩) d.length d.length),(6,.int .u64 (g.2.2:Int)),(14,.slice V d.length T),(15,.int .i64 (d.length:Int)),(16,.int .i64 (g.1:Int))]) (Inv:=KSr d h w U) (mu:=λg=>d.length-g.1) ((0,List.replicate d.length 0,0)) ?_ ?_ ?_
 ·exact ⟨duq.zero oS (oZ _),f,e⟩
 ·exact SLp
 rintro ⟨i,L,c⟩ wr ⟨l,f,e⟩;dsimp only at l f e;dsimp only;have c4:=l.le;have a8:=l.len;have c5:=l.c1;have c3:=k.getD i;have c2:=j.getD i;refine Sr λ_ M=>zL rfl rfl (zz (M (zc λ_ J=>?_)));refine zy rfl ?_ ?_<;>intro a6<;>try simp only[qs] at a6
 ·refine zkk (J (zc λ_ o=>CW.block (Sr λ_ I=>zm rfl ?_)));refine WL.ev (Ev.ixR (i) rfl rfl (q.q5 e) oO oO oT) rfl ?_
  refine WL.ev (Ev.load rfl rfl ((q.q5 e).u32 oF)) rfl ?_;have b5:=k.getD (i);refine za rfl (za rfl (zz (I (Sr λ_ H=>zm rfl (za rfl (zz (H (zc λ_ n=>Sr λ_ G=>zm rfl (zm rfl (zn rfl (zL rfl rfl (zz (G ?_)))))))))))));refine zy rfl ?_ ?_<;>intro a5<;>try simp only[qs] at a5
  ·refine zR λ_ B=>?_
   refine zm rfl (zm rfl (zm rfl ?_));refine WL.ev (Ev.ixR (i) rfl rfl (p.q5 e) oO oO oT) rfl ?_;refine WL.ev (Ev.load rfl rfl ((p.q5 e).u32 oF)) rfl ?_;have b4:=j.getD (i);refine WL.ev (Ev.dZ rfl rfl (iZ oO)) rfl ?_
   first|refine WL.ev (Ev.iX rfl rfl oO) rfl ?_|refine WL.ev (Ev.aaq rfl rfl) rfl ?_
   refine za rfl ?_;refine WL.nil (B _ _ _ (n ?_));refine Sr λ_ F=>zm rfl ?_;refine WL.ev (Ev.dZ rfl rfl (iZ oO)) rfl ?_;refine zm rfl ?_;refine WL.ev (Ev.cyq (a:=d.getD i 0) (b:=c+h.getD i 0) rfl rfl oO) rfl ?_;refine za rfl (zz (F ?_));refine zR λ_ A=>?_;refine zm rfl (zm rfl (zm rfl ?_));refine WL.ev (Ev.tZ (a:=(d.getD i 0+(18446744073709551616-(c+h.getD i 0)))%18446744073709551616) rfl rfl) rfl ?_;rw[show (d.getD i 0+(18446744073709551616-(c+h.getD i 0)))%18446744073709551616%4294967296=(d.getD i 0+8589934592-h.getD i 0-c)%4294967296 by omega];refine zm rfl ?_;refine WL.ev (Ev.atx (a:=(d.getD i 0+(18446744073709551616-(c+h.getD i 0)))%18446744073709551616) (b:=63) rfl rfl (by simp only[IntKind.bits];omega)) rfl ?_;rw[show (d.getD i 0+(18446744073709551616-(c+h.getD i 0)))%18446744073709551616/2^63=(if d.getD i 0<h.getD i 0+c then 1 else 0) by split<;>omega];refine WL.ev (Ev.ixB (i) rfl rfl oO oO) rfl ?_;refine WL.sJ rfl rfl f oF λc0 m R=>?_;have e:=e.s1 R;have f:=m;refine za rfl ?_;refine WL.nil (A _ _ _ (o ?_));refine zS λ_ z=>?_;(first|refine zi rfl rfl ?_|refine zo rfl rfl ?_);refine zm rfl (zz (z ?_));refine ⟨rfl,(i+1,L.set i ((d.getD i 0+8589934592-h.getD i 0-c)%4294967296),(if d.getD i 0<h.getD i 0+c then 1 else 0)),?_,?_,?_⟩
   ·exact SLp
   ·exact ⟨l.step k j oO,f,e⟩
   show d.length-(i+1)<d.length-i;omega
  have e0:Value.int IntKind.u64 (c:Int)=Value.int IntKind.u64 ((c+h.getD i 0:Nat):Int):=by rw[zJ oO];rfl
  rw[e0];refine zkk (n (Sr λ_ D=>zm rfl ?_));refine WL.ev (Ev.dZ rfl rfl (iZ oO)) rfl ?_;refine zm rfl ?_;refine WL.ev (Ev.cyq (a:=d.getD i 0) (b:=c+h.getD i 0) rfl rfl oO) rfl ?_;refine za rfl (zz (D ?_));refine zR λ_ y=>?_;refine zm rfl (zm rfl (zm rfl ?_));refine WL.ev (Ev.tZ (a:=(d.getD i 0+(18446744073709551616-(c+h.getD i 0)))%18446744073709551616) rfl rfl) rfl ?_;rw[show (d.getD i 0+(18446744073709551616-(c+h.getD i 0)))%18446744073709551616%4294967296=(d.getD i 0+8589934592-h.getD i 0-c)%4294967296 by omega];refine zm rfl ?_;refine WL.ev (Ev.atx (a:=(d.getD i 0+(18446744073709551616-(c+h.getD i 0)))%18446744073709551616) (b:=63) rfl rfl (by simp only[IntKind.bits];omega)) rfl ?_;rw[show (d.getD i 0+(18446744073709551616-(c+h.getD i 0)))%18446744073709551616/2^63=(if d.getD i 0<h.getD i 0+c then 1 else 0) by split<;>omega];refine WL.ev (Ev.ixB (i) rfl rfl oO oO) rfl ?_;refine WL.sJ rfl rfl f oF λb9 m Q=>?_;have e:=e.s1 Q;have f:=m;refine za rfl ?_;refine WL.nil (y _ _ _ (o ?_));refine zS λ_ x=>?_;(first|refine zi rfl rfl ?_|refine zo rfl rfl ?_);refine zm rfl (zz (x ?_));refine ⟨rfl,(i+1,L.set i ((d.getD i 0+8589934592-h.getD i 0-c)%4294967296),(if d.getD i 0<h.getD i 0+c then 1 else 0)),?_,?_,?_⟩
  ·exact SLp
  ·exact ⟨l.step k j oO,f,e⟩
  show d.length-(i+1)<d.length-i;omega
 have O:i=d.length:=by omega
 subst O;have a7:=NU.mJ f l.w oO a8.symm (Nat.le_refl _);refine CW.exit ?_;refine a0 (Sr λ_ C=>zm rfl ?_);refine WL.call hasF266 rfl rfl (a4q _ _ _ a7) λv w1 h'=>?_;obtain ⟨hN,rfl⟩:=h';rw[l.done k j a4] at hN;refine za rfl (zz (C ?_));refine zr (zr1 rfl rfl ?_);exact ⟨hN,e⟩
end
namespace Wd
theorem d8x{a b:List Nat}(f:W a)(e:W b)(c:a.length=b.length)(d:val a=val b):a=b:=by
  induction a generalizing b with
  | nil=>cases b with
    | nil=>rfl
    | cons y b=>simp at c
  | cons x a ih=>
    cases b with
    | nil=>simp at c
    | cons y b=>
      obtain ⟨l,h⟩:=yX.1 f
      obtain ⟨k,g⟩:=yX.1 e
      simp only[val] at d
      have j:x=y:=by omega
      have i:=ih h g (by simpa using c) oO
      rw[j,i]
theorem low_or{x y s:Nat}(d:x<4294967296)(k:s<32):x/2^s||| (y*2^(32-s)%4294967296)=(x+y*4294967296)/2^s%4294967296:=by
  have b:=Nat.two_pow_pos s
  have a:(4294967296:Nat)=2^s*2^(32-s):=by rw[<- Nat.pow_add,show s+(32-s)=32 by omega]
  have j:y*2^(32-s)%4294967296=(y%2^s)*2^(32-s):=by rw[a,Nat.mul_mod_mul_right]
  have e:x/2^s<2^(32-s):=by
    rw[Nat.div_lt_iff_lt_mul b,Nat.mul_comm,<- a];exact d
  have i:(x+y*4294967296)/2^s=x/2^s+y*2^(32-s):=by
    rw[a,show y*(2^s*2^(32-s))=2^s*(y*2^(32-s)) by rw[Nat.mul_left_comm],Nat.add_mul_div_left _ _ b]
  rw[j,agj e,i]
  have f:y%2^s+1<=2^s:=Nat.mod_lt _ b
  have c:=Nat.mul_le_mul_right (2^(32-s)) f
  rw[<- a,Nat.add_mul,Nat.one_mul] at c
  have h:x/2^s+y*2^(32-s)=(x/2^s+y%2^s*2^(32-s))+4294967296*(y/2^s):=by
    have:=Nat.mod_add_div y (2^s)
    have l:y*2^(32-s)=y%2^s*2^(32-s)+4294967296*(y/2^s):=by
      conv=>lhs;rw[<- this]
      rw[Nat.add_mul,a]
      simp only[Nat.mul_comm,Nat.mul_left_comm,Nat.mul_assoc]
    omega
  have g:(x/2^s+y*2^(32-s))%4294967296=x/2^s+y%2^s*2^(32-s):=by
    rw[h,Nat.add_mul_mod_self_left]
    exact Nat.mod_eq_of_lt oO
  exact g.symm
theorem lower_words{l L:List Nat}{s:Nat}(g:W l)(d:W L)(b:L.length=l.length)(f:0<l.length)(a:l.getD (l.length-1) 0≠0)(j:s<32)(c:val L=val l/2^s):
    (L.getD (l.length-1) 0≠0->L=wd (val l/2^s))/\(L.getD (l.length-1) 0=0->L.take (l.length-1)=wd (val l/2^s)):=by
  refine ⟨λh=>?_,λh=>?_⟩
  · rw[<- c];exact (bpj d (.inr (by rw[b];exact h))).symm
  · have e:val L=val (L.take (l.length-1)):=by
      have:=gQ L (l.length-1)
      rw[h,show l.length-1+1=L.length by omega,List.take_length] at this
      simpa using this
    have i:2^(32*(l.length-1))<=val l:=by
      have:=bl_val g (List.length_pos_iff.1 f) a
      have k:=bjq a
      exact caj.1 oO
    refine d8x (d.take _) (W_wd _) ?_ (by rw[g6,<- c,e])
    rw[List.length_take,Nat.min_eq_left oO]
    refine Nat.le_antisymm ?_ (aQ.2 ?_)
    · by_cases hk:l.length-1=0
      · omega
      · have n:2^(32*(l.length-1-1))<=val l/2^s:=by
          rw[Nat.le_div_iff_mul_le (Nat.two_pow_pos s),<- Nat.pow_add]
          exact Nat.le_trans (Nat.pow_le_pow_right oD oO) i
        have m : ¬(wd (val l/2^s)).length<=l.length-1-1:=by rw[aQ];omega
        omega
    · rw[<- c,e]
      have:=vX (d.take (l.length-1))
      rwa [List.length_take,Nat.min_eq_left oO] at this
structure Dy where
  neg:Bool
  m:Nat
  e:Int
def Dy.zero:Dy:=⟨false,0,0⟩
def cQ(neg:Bool)(n:Nat)(e:Int):Option Dy:=
  if n=0 then some Dy.zero else if 1048576-(tz n:Int)<e\/e < -1048576-(tz n:Int)\/8192<(wd (n/2^tz n)).length then none else some ⟨neg,n/2^tz n,e+tz n⟩
theorem jJ(neg:Bool)(e:Int):cQ neg 0 e=some Dy.zero:=by simp[cQ]
theorem bsx{neg:Bool}{n:Nat}{e:Int}(a:n≠0)(h:1048576-(tz n:Int)<e\/e < -1048576-(tz n:Int)\/8192<(wd (n/2^tz n)).length):cQ neg n e=none:=by
  unfold cQ;rw[if_neg a,if_pos h]
theorem sZ{neg:Bool}{n:Nat}{e:Int}(a:n≠0)(h : ¬(1048576-(tz n:Int)<e\/e < -1048576-(tz n:Int)\/8192<(wd (n/2^tz n)).length)):cQ neg n e=some ⟨neg,n/2^tz n,e+tz n⟩:=by
  unfold cQ;rw[if_neg a,if_neg h]
structure Dy.ok(d:Dy):Prop where
  z:d.m=0->d=Dy.zero
  odd:d.m≠0->d.m%2=1
  len:(wd d.m).length<=8192
  e : -1048576<=d.e/\d.e<=1048576
theorem iJ{neg:Bool}{n:Nat}{e:Int}{d:Dy}(h:cQ neg n e=some d):d.ok:=by
  unfold cQ at h
  split at h
  · cases h;exact ⟨λ_=>rfl,λh=>absurd rfl h,by simp[Dy.zero,eJ],by simp[Dy.zero]⟩
  · split at h
    · cases h
    · rename_i h0 h1
      cases h
      obtain ⟨a,b⟩:=akx h0
      refine ⟨λc=>?_,λ_=>a,by simpa using (by omega:(wd (n/2^tz n)).length<=8192),by simp;omega⟩
      simp only at c
      rw[c] at a;simp at a
theorem mX{d:Dy}(h:d.ok):cQ d.neg d.m d.e=some d:=by
  by_cases h0:d.m=0
  · rw[h.z h0];rfl
  · have b:=h.odd h0
    have a:=cdj b
    have f:=h.e
    have c:=h.len
    rw[sZ h0 (by rw[a];simp;omega),a]
    simp
def xX(x y:Dy):Option Dy:=
  if x.m=0 then some y else if y.m=0 then some x else
  if 8192<(wd (x.m*2^(x.e-min x.e y.e).toNat)).length\/8192<(wd (y.m*2^(y.e-min x.e y.e).toNat)).length then none
  else if x.neg=y.neg then cQ x.neg (x.m*2^(x.e-min x.e y.e).toNat+y.m*2^(y.e-min x.e y.e).toNat) (min x.e y.e)
  else if x.m*2^(x.e-min x.e y.e).toNat<y.m*2^(y.e-min x.e y.e).toNat then cQ y.neg (y.m*2^(y.e-min x.e y.e).toNat-x.m*2^(x.e-min x.e y.e).toNat) (min x.e y.e)
  else cQ x.neg (x.m*2^(x.e-min x.e y.e).toNat-y.m*2^(y.e-min x.e y.e).toNat) (min x.e y.e)
def fJ(x y:Dy):Option Dy:=if 8192<(wd (x.m*y.m)).length then none else cQ (x.neg != y.neg) (x.m*y.m) (x.e+y.e)
def bgj(f:Dy->Dy->Option Dy)(a b:Option Dy):Option Dy:=
  match a,b with
  | some x,some y=>f x y
  | _,_=>none
theorem aoj{f:Dy->Dy->Option Dy}{b:Option Dy}: bgj f none b=none:=rfl
theorem alq{f:Dy->Dy->Option Dy}{a:Option Dy}: bgj f a none=none:=by cases a<;>rfl
end Wd
namespace Wd
def nz(k:Nat):Nat:=if k<4503599627370496 then k else (4503599627370496+k%4503599627370496)*2^(k/4503599627370496-1)
theorem bfx{n x:Nat}(h:n<=9007199254740992)(a:x=0\/4503599627370496<=n):nz (n+x*4503599627370496)=n*2^x:=by
  unfold nz
  by_cases h1:n+x*4503599627370496<4503599627370496
  · rw[if_pos h1]
    have:x=0:=by omega
    subst this;simp
  · rw[if_neg h1]
    by_cases h2:n=9007199254740992
    · subst h2
      rw[show (9007199254740992+x*4503599627370496)%4503599627370496=0 by omega,show (9007199254740992+x*4503599627370496)/4503599627370496-1=x+1 by omega,Nat.pow_succ]
      omega
    · rw[show (n+x*4503599627370496)/4503599627370496-1=x by omega,show 4503599627370496+(n+x*4503599627370496)%4503599627370496=n by omega]
theorem dlq(k:Nat): ∃ n x,k=n+x*4503599627370496/\n<9007199254740992/\(x=0\/4503599627370496<=n):=by
  by_cases h:k<4503599627370496
  · exact ⟨k,0,by omega,by omega,.inl rfl⟩
  · exact ⟨4503599627370496+k%4503599627370496,k/4503599627370496-1,by omega,by omega,.inr oO⟩
theorem c5q{n x:Nat}(h:n<9007199254740992)(a:x=0\/4503599627370496<=n):nz (n+x*4503599627370496+1)=(n+1)*2^x:=by
  rw[show n+x*4503599627370496+1=(n+1)+x*4503599627370496 by omega]
  exact bfx oO oO
theorem cfj(k:Nat):nz k<nz (k+1):=by
  obtain ⟨n,x,rfl,b,a⟩:=dlq k
  rw[bfx oO a,c5q b a]
  exact Nat.mul_lt_mul_of_pos_right (Nat.lt_succ_self n) (Nat.two_pow_pos x)
theorem c5j{a b:Nat}(h:a<b):nz a<nz b:=by
  induction b with
  | zero=>omega
  | succ b ih=>
    by_cases e:a=b
    · subst e;exact cfj a
    · exact Nat.lt_trans (ih oO) (cfj b)
theorem nz_le{a b:Nat}(h:a<=b):nz a<=nz b:=by
  rcases Nat.lt_or_eq_of_le h with h|rfl
  · exact Nat.le_of_lt (c5j h)
  · exact Nat.le_refl _
def upM(mode:Int)(neg:Bool)(k A M:Nat):Bool:=
  if mode=0 then decide (M<A)||(decide (M=A)&&decide (k%2=1))
  else if mode=2 then !neg
  else if mode=3 then neg
  else if mode=4 then decide (M<=A)
  else false
def lZ(A B:Nat)(neg:Bool)(mode:Int)(r:Nat):Prop:=
  ∃ k,k<9218868437227405312/\2*nz k*B<=A/\(A<2*nz (k+1)*B\/k+1=9218868437227405312)/\
    r=if 2*nz k*B=A then k else if upM mode neg k A ((nz k+nz (k+1))*B) then k+1 else k
theorem lZ.unique{A B:Nat}{neg:Bool}{mode:Int}{r d:Nat}(q:0<B)(h:lZ A B neg mode r)(p:lZ A B neg mode d):r=d:=by
  obtain ⟨k,n,m,j,rfl⟩:=h
  obtain ⟨l,i,g,f,rfl⟩:=p
  have key : ∀ a b,2*nz a*B<=A->(A<2*nz (b+1)*B\/b+1=9218868437227405312)->a<9218868437227405312->a<=b:=by
    intro a b u c t
    rcases c with c|c
    · apply Nat.le_of_not_lt
      intro o
      have:=nz_le (show b+1<=a by omega)
      have s:2*nz (b+1)*B<=2*nz a*B:=Nat.mul_le_mul_right _ oO
      omega
    · omega
  have e:k=l:=Nat.le_antisymm (key k l m f n) (key l k g j i)
  subst e;rfl
theorem cmj{a b u v S T:Nat}(f:0<S)(hT:0<T)(d:a*S=u*T)(c:b*S=v*T):(a<=b↔u<=v)/\(b<=a↔v<=u):=by
  have key : ∀ {a b u v:Nat},a*S=u*T->b*S=v*T->(a<=b↔u<=v):=by
    intro a b u v d c
    constructor
    · intro h
      have e:=Nat.mul_le_mul_right S h
      rw[d,c] at e
      exact Nat.le_of_mul_le_mul_right e hT
    · intro h
      have e:=Nat.mul_le_mul_right T h
      rw[<- d,<- c] at e
      exact Nat.le_of_mul_le_mul_right e f
  exact ⟨key d c,key c d⟩
theorem lZ.congr{A B a B':Nat}{neg:Bool}{mode:Int}{r:Nat}(i:0<B)(d:0<B')(f:A*B'=a*B)(h:lZ A B neg mode r):lZ a B' neg mode r:=by
  have b : ∀ c,(c*B<=A↔c*B'<=a)/\(A<=c*B↔a<=c*B'):=λc=>
    cmj (S:=B') (T:=B) d i (by rw[Nat.mul_right_comm]) f
  obtain ⟨k,m,l,j,rfl⟩:=h
  have q:=b (2*nz k)
  have t:=b (2*nz (k+1))
  have s:=b (nz k+nz (k+1))
  have e:2*nz k*B=A↔2*nz k*B'=a:=by omega
  have u:upM mode neg k A ((nz k+nz (k+1))*B)=upM mode neg k a ((nz k+nz (k+1))*B'):=by
    unfold upM
    generalize (nz k+nz (k+1))*B=M at *
    generalize (nz k+nz (k+1))*B'=M' at *
    have p:decide (M<A)=decide (M'<a):=decide_eq_decide.2 oO
    have o:decide (M=A)=decide (M'=a):=decide_eq_decide.2 oO
    have n:decide (M<=A)=decide (M'<=a):=decide_eq_decide.2 oO
    rw[p,o,n]
  refine ⟨k,m,q.1.1 l,j.imp (λh=>by omega) id,?_⟩
  rw[u]
  by_cases hq:2*nz k*B=A
  · rw[if_pos hq,if_pos (e.1 hq)]
  · rw[if_neg hq,if_neg (λg=>hq (e.2 g))]
def dyA(m:Nat)(e:Int):Nat:=m*2^(e+1075).toNat
def dyB(e:Int):Nat:=2^(-(e+1075)).toNat
theorem yZ(e:Int):0<dyB e:=Nat.two_pow_pos _
theorem dy_scale{m:Nat}{e:Int}{cut t:Nat}(h:e+1075=(t:Int)-(cut:Int)):dyA m e*2^cut=m*2^t*dyB e:=by
  unfold dyA dyB
  by_cases hc:cut<=t
  · rw[show (e+1075).toNat=t-cut by omega,show (-(e+1075)).toNat=0 by omega,Nat.mul_assoc,<- Nat.pow_add,show t-cut+cut=t by omega,Nat.pow_zero,Nat.mul_one]
  · rw[show (e+1075).toNat=0 by omega,show (-(e+1075)).toNat=cut-t by omega,Nat.pow_zero,Nat.mul_one,Nat.mul_assoc,<- Nat.pow_add,show t+(cut-t)=cut by omega]
theorem cuq{B:Nat}(a:0<B)(neg:Bool)(mode:Int):lZ 0 B neg mode 0:=by
  refine ⟨0,by omega,by simp[nz],.inl ?_,by simp[nz]⟩
  have:nz (0+1)=1:=by decide
  rw[this];omega
theorem near_exact{m n x:Nat}{e:Int}{neg:Bool}{mode:Int}(h:n<9007199254740992)(b:x=0\/4503599627370496<=n)(g:n+x*4503599627370496<9218868437227405312){c:Nat}(f:n=m*2^c)(j:e+1075=(x:Int)+1+(c:Int)):lZ (dyA m e) (dyB e) neg mode (n+x*4503599627370496):=by
  have a:dyA m e=2*(n*2^x)*dyB e:=by
    unfold dyA dyB
    rw[show (e+1075).toNat=c+(x+1) by omega,show (-(e+1075)).toNat=0 by omega,f,Nat.pow_add,Nat.pow_succ,Nat.pow_zero,Nat.mul_one]
    simp only[Nat.mul_comm,Nat.mul_left_comm,Nat.mul_assoc]
  have d:=bfx (n:=n) (x:=x) oO b
  refine ⟨n+x*4503599627370496,g,by rw[d,a];exact Nat.le_refl _,.inl ?_,?_⟩
  · rw[c5q h b,a]
    have i:=Nat.mul_pos (Nat.two_pow_pos x) (yZ e)
    have:2*((n+1)*2^x)*dyB e=2*(n*2^x)*dyB e+2*(2^x*dyB e):=by
      rw[Nat.add_mul n 1,Nat.one_mul,Nat.mul_add,Nat.add_mul,Nat.mul_assoc 2 (2^x)]
    omega
  · rw[d,if_pos a.symm]
theorem near_cut{m n x cut:Nat}{e:Int}{neg half:Bool}{mode:Int}{up:Bool}(h:n<9007199254740992)(H:x=0\/4503599627370496<=n)(hk:n+x*4503599627370496<9218868437227405312)(hc:0<cut)(hm:m%2=1)(J:n=m/2^cut)(he:e+1075=(x:Int)+1-(cut:Int))
    (O:half=m.testBit (cut-1))
    (v:up=if mode=0 then (half&&(!decide (cut=1)||decide (n%2=1))) else if mode=4 then half else if mode=2 then !neg else if mode=3 then neg else false) :
    lZ (dyA m e) (dyB e) neg mode (if up then n+1+x*4503599627370496 else n+x*4503599627370496):=by
  have w:=dy_scale (m:=m) (e:=e) (cut:=cut) (t:=x+1) oO
  have hB:=yZ e
  generalize hA:dyA m e=A at *
  generalize dyB e=B at *
  have g:=Nat.two_pow_pos cut
  have o:=Nat.two_pow_pos x
  have a:2^cut=2*2^(cut-1):=by rw[show cut=cut-1+1 by omega,Nat.pow_succ,Nat.mul_comm];simp
  have j:=Nat.two_pow_pos (cut-1)
  -- the value by its quotient and what is left
  have I:m=2^cut*n+m%2^cut:=by rw[J];exact (Nat.div_add_mod m (2^cut)).symm
  have i:=Nat.mod_lt m g
  have D:m%2^cut%2=1:=by
    rw[a] at *
    rw[Nat.mod_mul_right_mod];exact hm
  generalize hrr:m%2^cut=r at *
  have s:half=decide (2^(cut-1)<=r):=by
    rw[O,Nat.testBit_eq_decide_div_mod_eq]
    refine decide_eq_decide.2 ?_
    have Y:m/2^(cut-1)=2*n+r/2^(cut-1):=by
      conv=>lhs;rw[I,a,Nat.mul_comm 2,Nat.mul_assoc,Nat.mul_add_div j]
    rw[Y]
    have e2:r/2^(cut-1)<2:=by rw[Nat.div_lt_iff_lt_mul j,<- a];exact i
    have X:=Nat.div_add_mod r (2^(cut-1))
    have V:=Nat.mod_lt r j
    clear Y I w a
    generalize r/2^(cut-1)=d at *
    generalize r%2^(cut-1)=f at *
    generalize 2^(cut-1)=C1 at *
    rcases (by omega:d=0\/d=1) with q|q
    · subst q;rw[Nat.mul_zero] at X;omega
    · subst q;rw[Nat.mul_one] at X;omega
  have k:(r=2^(cut-1))↔(2^(cut-1)<=r/\cut=1):=by
    constructor
    · intro u
      refine ⟨by omega,?_⟩
      apply Classical.byContradiction
      intro h2
      have:2^(cut-1)=2*2^(cut-2):=by rw[show cut-1=cut-2+1 by omega,Nat.pow_succ,Nat.mul_comm]
      rw[this] at u
      generalize 2^(cut-2)=z at u
      omega
    · rintro ⟨u,rfl⟩
      simp at i u ⊢
      omega
  -- comparisons by the scale
  have G:=bfx (n:=n) (x:=x) oO H
  have F:=c5q h H
  have c:=Nat.mul_pos o hB
  have b:A*2^cut=2*m*(2^x*B):=by rw[w,Nat.pow_succ];simp only[Nat.mul_comm,Nat.mul_left_comm,Nat.mul_assoc]
  have U:2*nz (n+x*4503599627370496)*B*2^cut=2*(2^cut*n)*(2^x*B):=by rw[G];simp only[Nat.mul_comm,Nat.mul_left_comm,Nat.mul_assoc]
  have T:2*nz (n+x*4503599627370496+1)*B*2^cut=(2*(2^cut*n)+2*2^cut)*(2^x*B):=by
    rw[F,show 2*(2^cut*n)+2*2^cut=2*(2^cut*(n+1)) by rw[Nat.mul_add,Nat.mul_add,Nat.mul_one]]
    simp only[Nat.mul_comm,Nat.mul_left_comm,Nat.mul_assoc]
  have R:(nz (n+x*4503599627370496)+nz (n+x*4503599627370496+1))*B*2^cut=(2*(2^cut*n)+2^cut)*(2^x*B):=by
    rw[G,F,<- Nat.add_mul,show n+(n+1)=2*n+1 by omega,show 2*(2^cut*n)+2^cut=2^cut*(2*n+1) by rw[Nat.mul_add,Nat.mul_one,Nat.mul_left_comm]]
    simp only[Nat.mul_comm,Nat.mul_left_comm,Nat.mul_assoc]
  have c1:=cmj g c U b
  have c2:=cmj g c T b
  have c3:=cmj g c R b
  generalize hP:2*nz (n+x*4503599627370496)*B=P at *
  generalize hQ:2*nz (n+x*4503599627370496+1)*B=Q at *
  generalize hM:(nz (n+x*4503599627370496)+nz (n+x*4503599627370496+1))*B=M at *
  generalize 2^cut*n=y at *
  have p:cut=1->r=2^(cut-1):=λe=>by subst e;simp at i ⊢;omega
  generalize 2^(cut-1)=C1 at *
  generalize 2^cut=C at *
  clear O J w U T R G F b c o
  have k1:P<A:=by omega
  have k2:A<Q:=by omega
  have k3:M<A↔C1<r:=by omega
  have k4:M=A↔C1=r:=by omega
  have Z:M<=A↔C1<=r:=by omega
  refine ⟨n+x*4503599627370496,hk,by rw[hP];omega,.inl (by rw[hQ];exact k2),?_⟩
  rw[hP,hM,if_neg (show ¬P=A by omega)]
  have hu:up=upM mode neg (n+x*4503599627370496) A M:=by
    rw[v]
    unfold upM
    rw[decide_eq_decide.2 k3,decide_eq_decide.2 k4,decide_eq_decide.2 Z,s]
    by_cases m0:mode=0
    · rw[if_pos m0,if_pos m0]
      have V:(n+x*4503599627370496)%2=n%2:=by omega
      rw[V]
      by_cases a1:C1<r
      · have l : ¬cut=1:=λe=>by have:=p e;omega
        rw[decide_eq_true (Nat.le_of_lt a1),decide_eq_true a1,decide_eq_false l];simp
      · by_cases l:C1=r
        · have a3:=(k.1 l.symm).2
          rw[decide_eq_true (Nat.le_of_eq l),decide_eq_false a1,decide_eq_true l,decide_eq_true a3];simp
        · rw[decide_eq_false (show ¬C1<=r by omega),decide_eq_false a1,decide_eq_false l];simp
    · rw[if_neg m0,if_neg m0]
      by_cases m4:mode=4
      · rw[if_pos m4,if_neg oO,if_neg oO,if_pos m4]
      · rw[if_neg m4,if_neg m4]
  rw[hu]
  split<;>omega
theorem near_beyond{m:Nat}{e:Int}{neg:Bool}{mode:Int}(g:m≠0)(r:1024<(bl m:Int)+e)(q:0<=mode/\mode<=4):
    lZ (dyA m e) (dyB e) neg mode (if mode=1\/(mode=2/\neg=true)\/(mode=3/\neg=false) then 9218868437227405311 else 9218868437227405312):=by
  have k:=bjq g
  obtain ⟨t,h⟩ : ∃ t:Nat,e+1075=(t:Int)-((bl m-1:Nat):Int):=⟨(e+1075+((bl m-1:Nat):Int)).toNat,by omega⟩
  have i:=dy_scale (m:=m) h
  have d:=yZ e
  obtain ⟨T,s⟩ : ∃ T:Nat,T=2046:=⟨_,rfl⟩
  have l:nz 9218868437227405312=4503599627370496*2^T:=by
    have:=bfx (n:=4503599627370496) (x:=T) oO (.inr oO)
    rwa [show 4503599627370496+T*4503599627370496=9218868437227405312 by omega] at this
  have c:9218868437227405311+1=9218868437227405312:=by omega
  have j:nz 9218868437227405311<nz 9218868437227405312:=c5j oO
  have f:2*nz 9218868437227405312*dyB e<=dyA m e:=by
    have b:2^(bl m-1)*2^(52+T+1)<=m*2^t:=Nat.mul_le_mul (cxx g) (Nat.pow_le_pow_right oD oO)
    have a:=Nat.mul_le_mul_right (dyB e) b
    rw[<- i] at a
    have p:2*nz 9218868437227405312=2^(52+T+1):=by
      rw[l,show (4503599627370496:Nat)=2^52 by decide,<- Nat.pow_add,Nat.pow_succ' (n:=52+T)]
    rw[p]
    have o:2^(52+T+1)*dyB e*2^(bl m-1)<=dyA m e*2^(bl m-1):=by
      rw[Nat.mul_assoc,Nat.mul_comm (dyB e),<- Nat.mul_assoc,Nat.mul_comm (2^(52+T+1))];exact a
    exact Nat.le_of_mul_le_mul_right o (Nat.two_pow_pos _)
  generalize dyA m e=A at *
  generalize dyB e=B at *
  have b:2*nz 9218868437227405311*B<A:=Nat.lt_of_lt_of_le (Nat.mul_lt_mul_of_pos_right oO d) f
  have a:(nz 9218868437227405311+nz (9218868437227405311+1))*B<A:=Nat.lt_of_lt_of_le (Nat.mul_lt_mul_of_pos_right (by rw[c];omega) d) f
  refine ⟨9218868437227405311,by omega,Nat.le_of_lt b,.inr c,?_⟩
  rw[if_neg (Nat.ne_of_lt b)]
  generalize (nz 9218868437227405311+nz (9218868437227405311+1))*B=M at *
  unfold upM
  rcases (by omega:mode=0\/mode=1\/mode=2\/mode=3\/mode=4) with rfl|rfl|rfl|rfl|rfl
  · simp[a]
  · simp
  · cases neg<;>simp
  · cases neg<;>simp
  · simp[Nat.le_of_lt a]
end Wd
namespace Wd
set_option exponentiation.threshold 5000
def Few(c:Nat):Prop:=∃ n x,c=n*2^x/\n<=2^55
theorem d7q(k:Nat):Few (2*nz k):=by
  obtain ⟨n,x,rfl,b,a⟩:=dlq k
  rw[bfx oO a]
  exact ⟨2*n,x,by rw[Nat.mul_assoc],by omega⟩
theorem few_mid(k:Nat):Few (nz k+nz (k+1)):=by
  obtain ⟨n,x,rfl,b,a⟩:=dlq k
  rw[bfx oO a,c5q b a]
  exact ⟨n+(n+1),x,by rw[<- Nat.add_mul],by omega⟩
theorem few_grid{c a:Nat}{e:Int}(h:Few c)(i:2^60<=a):c*dyB e<2*a*2^(e+1075).toNat\/∃ t,c*dyB e=2*t*2^(e+1075).toNat:=by
  obtain ⟨n,x,rfl,d⟩:=h
  unfold dyB
  by_cases he:e+1075<=0
  · rw[show (e+1075).toNat=0 by omega]
    generalize (-(e+1075)).toNat=h
    rw[Nat.mul_assoc,<- Nat.pow_add]
    by_cases hx:x+h=0
    · rw[hx];left;simp;omega
    · right
      refine ⟨n*2^(x+h-1),?_⟩
      obtain ⟨y,b⟩ : ∃ y,x+h=y+1:=⟨x+h-1,by omega⟩
      rw[b,Nat.add_sub_cancel,Nat.pow_succ]
      simp only[Nat.pow_zero,Nat.mul_one]
      ac_rfl
  · rw[show (-(e+1075)).toNat=0 by omega]
    generalize (e+1075).toNat=h
    rw[Nat.pow_zero,Nat.mul_one]
    by_cases hx:h+1<=x
    · right
      obtain ⟨y,rfl⟩ : ∃ y,x=y+1+h:=⟨x-1-h,by omega⟩
      refine ⟨n*2^y,?_⟩
      rw[Nat.pow_add,Nat.pow_succ]
      ac_rfl
    · left
      have g:2^x<=2^h:=Nat.pow_le_pow_right oD oO
      have f:=Nat.two_pow_pos h
      calc n*2^x<=2^55*2^h:=Nat.mul_le_mul d g
        _<2*a*2^h:=Nat.mul_lt_mul_of_pos_right oO f
theorem sticky_cmp{c d rem q s:Nat}{e:Int}(h:Few c)(l:2^60<=d)(w:rem<q)(j:s=if rem=0 then 0 else 1):
    (c*(q*dyB e)<=dyA (2*(d*q+rem)) e↔c*dyB e<=dyA (2*d+s) e)/\(dyA (2*(d*q+rem)) e<=c*(q*dyB e)↔dyA (2*d+s) e<=c*dyB e):=by
  have g:=few_grid (e:=e) h l
  have i:=Nat.two_pow_pos (e+1075).toNat
  unfold dyA
  have v:c*(q*dyB e)=c*dyB e*q:=by ac_rfl
  rw[v]
  generalize c*dyB e=X at g ⊢
  generalize 2^(e+1075).toNat=H at g i ⊢
  rcases g with g|⟨t,rfl⟩
  · have x:X*q<2*d*H*q:=Nat.mul_lt_mul_of_pos_right g oO
    have r:2*(d*q+rem)*H=2*d*H*q+2*rem*H:=by
      rw[Nat.mul_add,Nat.add_mul];congr 1;ac_rfl
    have p:(2*d+s)*H=2*d*H+s*H:=Nat.add_mul ..
    rw[r,p]
    constructor<;>constructor<;>intro h<;>omega
  · have key : ∀ a b:Nat,(2*a*H<=2*b*H↔a<=b):=λa b=>by
      constructor
      · intro h
        have:=Nat.le_of_mul_le_mul_right h i
        omega
      · intro h;exact Nat.mul_le_mul_right _ oO
    have u:2*t*H*q=2*(t*q)*H:=by ac_rfl
    rw[u,key,key]
    have o:t*q<=d*q+rem↔t<=d:=by
      constructor
      · intro h
        apply Nat.le_of_not_lt
        intro k
        have:=Nat.mul_le_mul_right q (show d+1<=t from k)
        rw[Nat.add_mul,Nat.one_mul] at this
        omega
      · intro h
        have:=Nat.mul_le_mul_right q h
        omega
    have n:d*q+rem<=t*q↔(d<t\/(d=t/\rem=0)):=by
      constructor
      · intro h
        rcases Nat.lt_trichotomy d t with f|f|f
        · exact .inl f
        · subst f;exact .inr ⟨rfl,by omega⟩
        · have:=Nat.mul_le_mul_right q (show t+1<=d from f)
          rw[Nat.add_mul,Nat.one_mul] at this
          omega
      · rintro (f|⟨rfl,f⟩)
        · have:=Nat.mul_le_mul_right q (show d+1<=t from f)
          rw[Nat.add_mul,Nat.one_mul] at this
          omega
        · omega
    rw[o,n]
    have f:2*t*H<=(2*d+s)*H↔2*t<=2*d+s:=⟨λh=>Nat.le_of_mul_le_mul_right h i,λh=>Nat.mul_le_mul_right _ h⟩
    have m:(2*d+s)*H<=2*t*H↔2*d+s<=2*t:=⟨λh=>Nat.le_of_mul_le_mul_right h i,λh=>Nat.mul_le_mul_right _ h⟩
    rw[f,m,j]
    split<;>omega
theorem lZ.alike{A B a B':Nat}{neg:Bool}{mode:Int}{r:Nat}(b : ∀ c,Few c->(c*B<=A↔c*B'<=a)/\(A<=c*B↔a<=c*B'))(h:lZ A B neg mode r):lZ a B' neg mode r:=by
  obtain ⟨k,i,g,f,rfl⟩:=h
  have n:=b _ (d7q k)
  have p:=b _ (d7q (k+1))
  have o:=b _ (few_mid k)
  have d:2*nz k*B=A↔2*nz k*B'=a:=by omega
  have u:upM mode neg k A ((nz k+nz (k+1))*B)=upM mode neg k a ((nz k+nz (k+1))*B'):=by
    unfold upM
    generalize (nz k+nz (k+1))*B=M at *
    generalize (nz k+nz (k+1))*B'=M' at *
    have m:decide (M<A)=decide (M'<a):=decide_eq_decide.2 oO
    have l:decide (M=A)=decide (M'=a):=decide_eq_decide.2 oO
    have j:decide (M<=A)=decide (M'<=a):=decide_eq_decide.2 oO
    rw[m,l,j]
  refine ⟨k,i,n.1.1 g,f.imp (λh=>by omega) id,?_⟩
  rw[u]
  by_cases hq:2*nz k*B=A
  · rw[if_pos hq,if_pos (d.1 hq)]
  · rw[if_neg hq,if_neg (λe=>hq (d.2 e))]
theorem near_sticky{a rem q:Nat}{e:Int}{neg:Bool}{mode:Int}{r:Nat}(b:2^60<=a)(d:rem<q)(h:lZ (dyA (2*a+if rem=0 then 0 else 1) e) (dyB e) neg mode r):
    lZ (dyA (2*(a*q+rem)) e) (q*dyB e) neg mode r:=
  h.alike λc hc=>by
    have:=sticky_cmp (c:=c) (e:=e) hc b d rfl
    exact ⟨this.1.symm,this.2.symm⟩
theorem dmq{A B:Nat}{neg:Bool}{mode:Int}(b:0<B)(c:2*nz 9218868437227405312*B<=A)(g:0<=mode/\mode<=4):
    lZ A B neg mode (if mode=1\/(mode=2/\neg=true)\/(mode=3/\neg=false) then 9218868437227405311 else 9218868437227405312):=by
  have a:9218868437227405311+1=9218868437227405312:=by omega
  have f:nz 9218868437227405311<nz 9218868437227405312:=c5j oO
  have e:2*nz 9218868437227405311*B<A:=Nat.lt_of_lt_of_le (Nat.mul_lt_mul_of_pos_right oO b) c
  have d:(nz 9218868437227405311+nz (9218868437227405311+1))*B<A:=Nat.lt_of_lt_of_le (Nat.mul_lt_mul_of_pos_right (by rw[a];omega) b) c
  refine ⟨9218868437227405311,by omega,Nat.le_of_lt e,.inr a,?_⟩
  rw[if_neg (Nat.ne_of_lt e)]
  generalize (nz 9218868437227405311+nz (9218868437227405311+1))*B=M at *
  unfold upM
  rcases (by omega:mode=0\/mode=1\/mode=2\/mode=3\/mode=4) with rfl|rfl|rfl|rfl|rfl
  · simp[d]
  · simp
  · cases neg<;>simp
  · cases neg<;>simp
  · simp[Nat.le_of_lt d]
theorem near_tiny{A B b B':Nat}{neg:Bool}{mode:Int}{r:Nat}(e:0<A)(h:A<B)(a:0<b)(g:b<B')(f:lZ A B neg mode r):lZ b B' neg mode r:=by
  have key : ∀ {A B:Nat},0<A->A<B->lZ A B neg mode (if mode=2/\neg=false\/mode=3/\neg=true then 1 else 0):=by
    intro A B e h
    have d:nz 0=0:=by decide
    have c:nz (0+1)=1:=by decide
    refine ⟨0,by omega,by rw[d];omega,.inl (by rw[c];omega),?_⟩
    rw[d,c,if_neg (show ¬2*0*B=A by omega)]
    unfold upM
    by_cases m0:mode=0
    · subst m0;simp;omega
    by_cases m2:mode=2
    · subst m2;cases neg<;>simp
    by_cases m3:mode=3
    · subst m3;cases neg<;>simp
    by_cases m4:mode=4
    · subst m4;simp;omega
    · rw[if_neg m0,if_neg m2,if_neg m3,if_neg m4,if_neg oO];simp
  rw[f.unique oO (key e h)]
  exact key a g
theorem nz_end:2*nz 9218868437227405312=2^2099:=by
  have:=bfx (n:=4503599627370496) (x:=2046) oO (.inr oO)
  rw[show 4503599627370496+2046*4503599627370496=9218868437227405312 by omega] at this
  rw[this,show (4503599627370496:Nat)=2^52 by decide,<- Nat.pow_add,<- Nat.pow_succ']
structure cqx(A0 B i size a:Nat):Prop where
  z:i=0->size=0/\a=A0
  s:0<i->A0*2^(i-1)=size*B+a/\a<B
  w:size<2^i
theorem cqx.zero(a B:Nat):cqx a B 0 0 a:=⟨λ_=>⟨rfl,rfl⟩,λh=>absurd h oO,by simp⟩
theorem cqx.step{d B i b a a':Nat}(h:cqx d B i b a)(p:d<2*B)(e:a'=if 0<i then a*2^1 else a):(B<=a'->cqx d B (i+1) (b*2^1+1) (a'-B))/\(a'<B->cqx d B (i+1) (b*2^1) a'):=by
  obtain ⟨k,l,m⟩:=h
  have c:d*2^(i+1-1)=b*2^1*B+a'/\a'<2*B:=by
    by_cases h0:i=0
    · subst h0
      obtain ⟨rfl,rfl⟩:=k rfl
      rw[if_neg oO] at e
      subst e
      simp
      omega
    · obtain ⟨g,o⟩:=l oO
      rw[if_pos oO] at e
      obtain ⟨j,rfl⟩ : ∃ j,i=j+1:=⟨i-1,by omega⟩
      simp only[Nat.add_sub_cancel] at g ⊢
      rw[Nat.pow_succ,<- Nat.mul_assoc,g,e,Nat.add_mul]
      refine ⟨by simp only[Nat.pow_one];rw[Nat.mul_right_comm],by omega⟩
  have n:2^(i+1)=2^i*2:=Nat.pow_succ ..
  refine ⟨λf=>⟨λh=>by omega,λ_=>⟨?_,by omega⟩,by omega⟩,λf=>⟨λh=>by omega,λ_=>⟨c.1,f⟩,by omega⟩⟩
  rw[c.1,Nat.add_mul,Nat.one_mul]
  omega
theorem cgx{m q:Nat}(d:m≠0)(c:q≠0){a:Int}(o:a=(bl m:Int)-(bl q:Int)):
    m*2^(max 0 (-a)).toNat<2*(q*2^(max 0 a).toNat)/\q*2^(max 0 a).toNat<2*(m*2^(max 0 (-a)).toNat):=by
  have j:=adq d (max 0 (-a)).toNat
  have i:=adq c (max 0 a).toNat
  have h:bl (m*2^(max 0 (-a)).toNat)=bl (q*2^(max 0 a).toNat):=by
    rw[j,i]
    have:=bjq d;have:=bjq c
    omega
  have b:m*2^(max 0 (-a)).toNat≠0:=Nat.pos_iff_ne_zero.1 (Nat.mul_pos oO (Nat.two_pow_pos _))
  have f:q*2^(max 0 a).toNat≠0:=Nat.pos_iff_ne_zero.1 (Nat.mul_pos oO (Nat.two_pow_pos _))
  generalize m*2^(max 0 (-a)).toNat=x at *
  generalize q*2^(max 0 a).toNat=y at *
  have n:=cxx b
  have g:=cxx f
  have k:=cbq x
  have e:=cbq y
  have l:=bjq b
  rw[<- h] at e g
  have:2^bl x=2^(bl x-1)*2:=by rw[<- Nat.pow_succ];congr 1;omega
  omega
theorem dxq(b:Int):((max 0 b).toNat:Int)-((max 0 (-b)).toNat:Int)=b:=by omega
theorem dig_size{d B i b a:Nat}(h:cqx d B i b a)(k:2<=i)(e:B<2*d):2^(i-2)<=b:=by
  obtain ⟨g,o⟩:=h.s oO
  apply Nat.le_of_not_lt
  intro c
  obtain ⟨j,rfl⟩ : ∃ j,i=j+2:=⟨i-2,by omega⟩
  simp only[Nat.add_sub_cancel] at c
  rw[show j+2-1=j+1 by omega,Nat.pow_succ] at g
  have f:(b+1)*B<=2^j*B:=Nat.mul_le_mul_right _ c
  rw[Nat.add_mul,Nat.one_mul] at f
  have n:B*2^j<2*d*2^j:=Nat.mul_lt_mul_of_pos_right e (Nat.two_pow_pos j)
  have m:d*(2^j*2)=2*d*2^j:=by ac_rfl
  have l:2^j*B=B*2^j:=Nat.mul_comm ..
  omega
theorem near_quot{m q b a:Nat}{E d e:Int}{neg:Bool}{mode:Int}{r:Nat}(R:m≠0)(O:q≠0)(U:d=(bl m:Int)-(bl q:Int))(g:0<=mode/\mode<=4)
    (v:cqx (m*2^(max 0 (-d)).toNat) (q*2^(max 0 d).toNat) 82 b a) (he:e=max (-3000) (min 3000 (d-81+E-1)))
    (h:lZ (dyA (2*b+if a=0 then 0 else 1) e) (dyB e) neg mode r):lZ (dyA m E) (q*dyB E) neg mode r:=by
  obtain ⟨Z,H⟩:=cgx R O U
  have l:=dig_size v oO H
  have I:=v.w
  obtain ⟨G,X⟩:=v.s oO
  have J:=dxq d
  generalize hx:(max 0 (-d)).toNat=x at *
  generalize hy:(max 0 d).toNat=y at *
  rw[show 82-1=81 by omega] at G
  have i:0<q:=by omega
  -- the ratio,by its digits
  obtain ⟨c,T⟩ : ∃ c:Int,c=d-81+E-1:=⟨_,rfl⟩
  have f:dyA m E*(q*2^y*dyB c)=dyA (2*(b*(q*2^y)+a)) c*(q*dyB E):=by
    rw[<- G]
    unfold dyA dyB
    have n:y+(E+1075).toNat+(-(c+1075)).toNat=x+82+(c+1075).toNat+(-(E+1075)).toNat:=by omega
    calc m*2^(E+1075).toNat*(q*2^y*2^(-(c+1075)).toNat)=m*q*(2^y*2^(E+1075).toNat*2^(-(c+1075)).toNat):=by ac_rfl
      _=m*q*(2^x*2^82*2^(c+1075).toNat*2^(-(E+1075)).toNat):=by rw[<- Nat.pow_add,<- Nat.pow_add,n,Nat.pow_add,Nat.pow_add,Nat.pow_add]
      _=_:=by rw[show (2:Nat)^82=2*2^81 by rw[<- Nat.pow_succ']];ac_rfl
  have p:0<q*2^y*dyB c:=Nat.mul_pos (Nat.mul_pos i (Nat.two_pow_pos _)) (yZ _)
  have j:0<q*dyB E:=Nat.mul_pos i (yZ _)
  by_cases c1:e=c
  · subst c1
    have D:=near_sticky (q:=q*2^y) (rem:=a) (Nat.le_trans (Nat.pow_le_pow_right oD oD) l) X h
    exact D.congr p j f.symm
  by_cases c2:3000<c
  · -- too great,both
    have F:e=3000:=by omega
    subst F
    have o : ∀ {M:Nat},2^80<=M->2*nz 9218868437227405312*dyB 3000<=dyA M 3000:=by
      intro M V
      rw[nz_end]
      unfold dyA dyB
      rw[show ((3000:Int)+1075).toNat=4075 by decide,show (-((3000:Int)+1075)).toNat=0 by decide,Nat.pow_zero,Nat.mul_one]
      exact Nat.le_trans (Nat.pow_le_pow_right oD (by omega:2099<=80+4075)) (by rw[Nat.pow_add];exact Nat.mul_le_mul_right _ V)
    have D:=dmq (neg:=neg) (yZ 3000) (o (M:=2*b+if a=0 then 0 else 1) oO) g
    rw[h.unique (yZ _) D]
    refine dmq j ?_ g
    -- the ratio itself
    have C:2*nz 9218868437227405312*(q*2^y*dyB c)<=dyA (2*(b*(q*2^y)+a)) c:=by
      rw[nz_end]
      unfold dyA dyB
      rw[show (-(c+1075)).toNat=0 by omega,Nat.pow_zero,Nat.mul_one]
      have B:2^2099<=2*2^80*2^(c+1075).toNat:=by
        rw[<- Nat.pow_succ',<- Nat.pow_add];exact Nat.pow_le_pow_right oD oO
      calc 2^2099*(q*2^y)<=2*2^80*2^(c+1075).toNat*(q*2^y):=Nat.mul_le_mul_right _ B
        _=2*(2^80*(q*2^y))*2^(c+1075).toNat:=by ac_rfl
        _<=2*(b*(q*2^y)+a)*2^(c+1075).toNat:=by
          refine Nat.mul_le_mul_right _ (Nat.mul_le_mul_left _ ?_)
          exact Nat.le_trans (Nat.mul_le_mul_right _ l) (Nat.le_add_right _ _)
    have k:=Nat.mul_le_mul_right (q*dyB E) C
    rw[<- f] at k
    have t:2*nz 9218868437227405312*(q*dyB E)*(q*2^y*dyB c)<=dyA m E*(q*2^y*dyB c):=by
      refine Nat.le_trans (Nat.le_of_eq ?_) k
      ac_rfl
    exact Nat.le_of_mul_le_mul_right t p
  · -- tiny,both
    have F:e = -3000:=by omega
    subst F
    have z:(dyB (-3000))=2^1925:=by unfold dyB;rw[show (-((-3000:Int)+1075)).toNat=1925 by decide]
    have A : ∀ M,dyA M (-3000)=M:=λM=>by unfold dyA;rw[show ((-3000:Int)+1075).toNat=0 by decide];simp
    rw[A] at h
    have u:2*b+(if a=0 then 0 else 1)<2^84:=by split<;>omega
    refine near_tiny oO (Nat.lt_of_lt_of_le u (by rw[z];exact Nat.pow_le_pow_right oD oD)) (Nat.mul_pos oO (Nat.two_pow_pos _)) ?_ h
    have C:dyA (2*(b*(q*2^y)+a)) c<q*2^y*dyB c:=by
      unfold dyA dyB
      rw[show (c+1075).toNat=0 by omega,Nat.pow_zero,Nat.mul_one]
      have B:2^84<=2^(-(c+1075)).toNat:=Nat.pow_le_pow_right oD oO
      have hQ:0<q*2^y:=Nat.mul_pos i (Nat.two_pow_pos _)
      generalize q*2^y=Q at *
      have k:(b+1)*Q<=2^82*Q:=Nat.mul_le_mul_right _ I
      rw[Nat.add_mul,Nat.one_mul] at k
      have t:Q*2^84<=Q*2^(-(c+1075)).toNat:=Nat.mul_le_mul_left _ B
      have Y:Q*2^84=4*(2^82*Q):=by rw[show (2:Nat)^84=4*2^82 by rw[show (4:Nat)=2^2 from rfl,<- Nat.pow_add]];ac_rfl
      omega
    have k:=Nat.mul_lt_mul_of_pos_right C j
    rw[<- f] at k
    have t:dyA m E*(q*2^y*dyB c)<q*dyB E*(q*2^y*dyB c):=by
      refine Nat.lt_of_lt_of_eq k ?_
      ac_rfl
    exact Nat.lt_of_mul_lt_mul_right t
end Wd
section
open Go Sx Wd
theorem lower_spec(v:Value)(l:List Nat)(s:Nat)(w:World)(h:NU w v l)(hs:s<32)(hp:0<l.length)(t:l.getD (l.length-1) 0≠0):Ret Tryz.prog 208 [v,.int .i64 (s:Int)] w λu w'=>NU w' u (wd (val l/2^s))/\Chg [] w w':=by
  obtain ⟨⟨al,cl,rfl,a8,m⟩,d,c3⟩:=h;have b:=crf w;refine zE2 Tryz.func208 rfl ?_;refine Sr λ_ a5=>za rfl (zz (a5 (Sr λ_ a4=>zm rfl (zn rfl ?_))));refine WL.baj ((l).length) ((l).length) rfl rfl oO oO oO oO oO rfl λZ b3 a y x=>?_;have z:=Nat.le_trans b.size x;have b:=b.trans y;refine za rfl (zz (a4 (zc λ_ a3=>Sr λ_ a2=>zm rfl (zn rfl (zm rfl (zz (a2 (CW.block ?_))))))));refine CW.loop (S:=λg:Nat×List Nat=>[(0,.slice al l.length cl),(1,.int .i64 (s:Int)),(5,.slice (some ⟨Z,0,none⟩) l.length l.length),(12,.slice al l.length cl),(13,.int .i64 (l.length:Int)),(14,.int .i64 (g.1:Int))]) (Inv:=KD l s w Z) (mu:=λg=>l.length-g.1) ((0,List.replicate l.length 0)) ?_ ?_ ?_
  · exact ⟨ccj.zero l _ s oS (oZ _),a,b⟩
  · exact SLp
  rintro ⟨i,L⟩ wr ⟨e,a,b⟩;dsimp only at e a b;have c4:=e.le;have b2:=e.len;have o:=e.w;refine Sr λ_ a1=>zL rfl rfl (zz (a1 (zc λ_ Q=>?_)));refine zy rfl ?_ ?_<;>intro b1<;>try simp only[qs] at b1
  · refine zkk (Q (zc λ_ r=>CW.block (Sr λ_ O=>zm rfl ?_)));refine WL.ev (Ev.ixR (i) rfl rfl (m.q5 b) oO oO oT) rfl ?_
    refine WL.ev (Ev.load rfl rfl ((m.q5 b).u32 oF)) rfl ?_;have b7:=d.getD (i);refine za rfl (za rfl (zz (O (Sr λ_ M=>zm rfl (zm rfl (zm rfl (zm rfl ?_)))))));refine WL.ev (Ev.atx rfl rfl (by simp only[IntKind.bits];omega)) rfl ?_;have c5:l.getD i 0/2^s<=l.getD i 0:=Nat.div_le_self _ _;refine WL.ev (Ev.ixB (i) rfl rfl oO oO) rfl ?_;refine WL.sJ rfl rfl a oF λc1 c Y=>?_;have b:=b.s2 Y;have a:=c;refine zz (M ?_);refine CW.oJ 33 (decide (0<s/\i+1<l.length)) ?_ ?_
    · refine zS λ_ p=>zm rfl (zG rfl rfl (zm rfl ?_));refine zb ?_ ?_<;>intro a7<;>try simp only[qs] at a7
      · refine zw rfl (zm rfl (zw rfl ?_));(first|refine zi rfl rfl ?_|refine zo rfl rfl ?_);refine zw rfl (zm rfl (zw rfl (zn rfl (zw rfl (zL rfl rfl (zt rfl rfl (zz (p ?_))))))));refine ⟨rfl,rfl,q9.g7 rfl ?_ ?_⟩
        · first|(simp;omega)|(refine decide_eq_decide.2 ?_;omega)
        exact SMg
      refine zv rfl (zv rfl (zv rfl (zv rfl (zv rfl (ze rfl rfl (zz (p ?_)))))));refine ⟨rfl,rfl,q9.g7 rfl ?_ ?_⟩
      · first|(simp;omega)|(refine decide_eq_decide.2 ?_;omega)
      exact SMg
    refine zy rfl ?_ ?_<;>intro b0<;>try simp only[qs] at b0
    · refine CW.gX 14 15 rfl cJ λb4 F f V=>?_
      have b:=b.trans V;have a:=a.k0 V;have k:=b;have n:=a;refine wk 0 rfl f (eM rfl) (wk 1 rfl f (eM rfl) (wk 2 rfl f (λ_ _=>Ev.ixB (i) rfl rfl oO oO) (wk 3 rfl f (λ_ j=>Ev.load rfl rfl ((n.q5 j).u32 oT)) ?_)));rw[yQ oO];refine wk 4 rfl f (eM rfl) (wk 5 rfl f (eM rfl) (wk 6 rfl f (λ_ _=>Ev.jZ rfl rfl oO) (wk 7 rfl f (λ_ j=>Ev.ixR ((i+1)) rfl rfl (m.q5 (k.trans j)) oO oO oT) (wk 8 rfl f (λ_ j=>Ev.load rfl rfl ((m.q5 (k.trans j)).u32 oF)) ?_))));have b6:=d.getD ((i+1));refine wk 9 rfl f (eM rfl) (wk 10 rfl f (λ_ _=>Ev.dX rfl rfl oO) ?_);rw[show (32:Int)-(s:Int)=((32-s:Nat):Int) by omega];refine wk 11 rfl f (λ_ _=>Ev.shlU32 rfl rfl) (wk 12 rfl f (λ_ _=>Ev.orU rfl rfl rfl (by simp only[IntKind.bits];omega) (by simp only[IntKind.bits];omega)) ?_);rw[low_or (d.getD i) hs];refine wk 13 rfl f (λ_ _=>Ev.ixB (i) rfl rfl oO oO) ?_;refine WK.sJ 14 rfl oR oR rfl rfl a oF λc0 c X=>?_;have b:=b.s2 X;have a:=c;refine WK.done oR (F _ _ _ ?_);refine r (zS λ_ D=>?_);(first|refine zi rfl rfl ?_|refine zo rfl rfl ?_);refine zm rfl (zz (D ?_));refine ⟨rfl,(i+1,L.set i ((l.getD i 0+l.getD (i+1) 0*4294967296)/2^s%4294967296)),?_,?_,?_⟩
      · exact SLp
      · rw[List.set_set] at a;exact ⟨e.step hs d oO rfl,a,b⟩
      show l.length-(i+1)<l.length-i;omega
    have U:l.getD i 0/2^s=(l.getD i 0+l.getD (i+1) 0*4294967296)/2^s%4294967296:=by
      by_cases q0:i+1<l.length
      · have:s=0:=by omega
        subst this;rw[Nat.pow_zero,Nat.div_one,Nat.div_one];omega
      rw[zJ (i:=i+1) oO,Nat.zero_mul,Nat.add_zero,Nat.mod_eq_of_lt oO]
    refine zkk (r (zS λ_ C=>?_));(first|refine zi rfl rfl ?_|refine zo rfl rfl ?_);refine zm rfl (zz (C ?_));refine ⟨rfl,(i+1,L.set i ((l.getD i 0+l.getD (i+1) 0*4294967296)/2^s%4294967296)),?_,?_,?_⟩
    · exact SLp
    · rw[U] at a;exact ⟨e.step hs d oO rfl,a,b⟩
    show l.length-(i+1)<l.length-i;omega
  refine CW.exit ?_;refine a3 (zc λ_ q=>zc λ_ J=>?_);have T:i=l.length:=by omega
  subst T;have a6:=e.done d;have R:=lower_words d o b2 hp t hs a6;refine zR λ_ B=>?_;refine zm rfl (zn rfl ?_)
  first|refine WL.ev (Ev.dX rfl rfl oO) rfl ?_|refine WL.ev (Ev.sub rfl rfl) rfl ?_
  refine za rfl ?_;refine WL.nil (B _ _ _ (J ?_));refine Sr λ_ I=>zm rfl (zm rfl ?_);refine WL.ev (Ev.ixB ((l.length-1)) rfl rfl oO oO) rfl ?_;refine WL.ev (Ev.load rfl rfl (a.u32 oF)) rfl ?_;have b5:=o.getD ((l.length-1));refine zq rfl rfl (zz (I ?_));refine zy rfl ?_ ?_<;>intro a9<;>try simp only[qs] at a9
  · refine zR λ_ A=>?_
    refine zm rfl (zm rfl (zm rfl ?_));refine WL.ev (Ev.slice3n ((l.length-1)) ((l.length-1)) rfl rfl rfl oO oO oO oO) rfl ?_;refine za rfl ?_;refine WL.nil (A _ _ _ (q ?_));refine Sr λ_ H=>zm rfl (za rfl (zz (H ?_)));refine zr (zr1 rfl rfl ?_);rw[<- R.2 oO];exact ⟨NU.part a.row o oO oO (Nat.le_refl _),b⟩
  refine zkk (q (Sr λ_ G=>zm rfl (za rfl (zz (G ?_)))));refine zr (zr1 rfl rfl ?_);rw[<- R.1 oO];exact ⟨NU.mJ a o oO oO (Nat.le_refl _),b⟩
structure DY(w:World)(u:Value)(d:Dy):Prop where
  ex : ∃ r,u = .agg [.bool d.neg,r,.int .i64 d.e].toArray/\NU w r (wd d.m)
def DR(w:World)(u:Value)(x:Option Dy):Prop:=(∃ r d,x=some d/\u = .tuple [.agg [.bool d.neg,r,.int .i64 d.e].toArray,.int .i64 0].toArray/\NU w r (wd d.m))\/(x=none/\u = .tuple [.agg [.bool false,.slice none 0 0,.int .i64 0].toArray,.int .i64 2].toArray)
theorem aax(neg:Bool)(v:Value)(l:List Nat)(e:Int)(w:World)(h:NU w v l)(hg:GW w)(he : -9223372036854775808<=e/\e<=9223372036854775807):Ret Tryz.prog 133 [.bool neg,v,.int .i64 e] w λu w'=>DR w' u (cQ neg (val l) e)/\Chg [] w w':=by
 obtain ⟨A,t⟩ : ∃ A,A=wd (val l):=⟨_,rfl⟩;have o:val A=val l:=by rw[t];exact g6 _
 have a:=crf w;refine zE3 Tryz.func133 rfl ?_;refine Sr λ_ a0=>?_;refine WL.iQ (l:=[.bool false,.slice none 0 0,.int .i64 0]) rfl rfl λb6 b4 c M H=>?_;have G:=Nat.le_trans a.size H;have a:=a.trans M;refine za rfl (zz (a0 (Sr λ_ Z=>zm rfl ?_)));refine WL.call hasF206 rfl rfl (b8q _ _ _ (h.q5 a)) λv w1 T=>?_;obtain ⟨s,n⟩:=T;rw[<- t] at s;have R:=s;obtain ⟨⟨a1,c1,rfl,p,a4⟩,O,b8⟩:=R;have a:=a.trans n;have c:=c.k0 n;refine za rfl (zz (Z (zc λ_ Y=>Sr λ_ X=>zm rfl (zn rfl (zq rfl rfl (zz (X ?_)))))));refine zy rfl ?_ ?_<;>intro r<;>try simp only[qs] at r
 ·refine Sr λ_ V=>?_
  refine WL.ev (Ev.build (vs:=_) (cs:=[_,_,_]) rfl rfl) rfl ?_;refine zss rfl rfl ao c rfl λb3 d J=>?_;(try simp only[qt] at d);have a:=a.s2 J;have c:=d;refine za rfl (zz (V ?_));refine zr (k8.gJ rfl (aX.cell rfl (c.fX rfl rfl)) (aX.tmp rfl) ?_);have a3:val l=0:=by rw[<- o,List.length_eq_zero_iff.1 (show A.length=0 by omega)];rfl
  rw[a3,jJ];exact ⟨.inl ⟨_,_,rfl,rfl,by rw[show Dy.zero.m=0 from rfl,eJ];exact NU.nil⟩,a⟩
 have i:val l≠0:=λe0=>by rw[e0,eJ] at t;rw[t] at r;exact r rfl
 have b0:A.getD (A.length-1) 0≠0:=by rw[t];exact ciq i
 obtain ⟨q,F⟩ : ∃ q,q=tz (val l):=⟨_,rfl⟩;have a5:=yJ i;have c0:bl (val l)<=32*A.length:=by rw[bbj,<- t];exact Nat.le_refl _
 rw[<- F] at a5;refine zkk (Y (Sr λ_ D=>zm rfl ?_));refine WL.call hasF207 rfl rfl (Low_spec _ _ _ s (hg.q5 a)) λv w2 T=>?_;obtain ⟨rfl,rfl⟩:=T;rw[o,<- F];refine za rfl (zz (D (Sr λ_ C=>zm rfl (zm rfl ?_))));refine WL.ev (Ev.djj (b:=32) rfl rfl oO (tQ oO).2) rfl ?_;refine WL.ev (Ev.bqq ((q/32)) rfl rfl oO oO) rfl ?_;refine zm rfl ?_;refine WL.ev (Ev.dfx (b:=32) rfl rfl oO) rfl ?_;refine WL.call hasF208 rfl rfl (lower_spec _ (A.drop (q/32)) (q%32) _ (NU.acq (by rw[List.map_drop];exact a4.cut _ _ oT (by simpa using p)) (O.drop _) oT oS oO) oO oT (by rw[List.length_drop,List.getD_eq_getElem?_getD,List.getElem?_drop,<- List.getD_eq_getElem?_getD,show q/32+(A.length-q/32-1)=A.length-1 by omega];exact b0)) λv w3 T=>?_;obtain ⟨f,k⟩:=T;rw[cjx O _ oO,o,d8q] at f;obtain ⟨B,U⟩ : ∃ B,B=wd (val l/2^q):=⟨_,rfl⟩;rw[<- U] at f;have Q:=f;obtain ⟨⟨a2,c2,rfl,a8,b5⟩,c3,b7⟩:=Q;have a:=a.trans k;have c:=c.k0 k;refine za rfl (zz (C (zc λ_ z=>?_)));refine CW.oJ 39 (decide ((1048576-(q:Int)<e\/e < -1048576-(q:Int))\/8192<B.length)) ?_ ?_
 ·refine zS λ_ g=>zm rfl (zm rfl ?_);refine WL.ev (Ev.dX rfl rfl oO) rfl ?_;refine zG rfl rfl (zm rfl ?_);refine zb ?_ ?_<;>intro a7<;>try simp only[qs] at a7
  ·refine zv rfl (zv rfl (zv rfl (zv rfl (zt rfl rfl (zm rfl (zv rfl (zv rfl (zv rfl (zt rfl rfl (zz (g ?_)))))))))));refine ⟨rfl,rfl,q9.g7 rfl ?_ ?_⟩
   ·first|(simp;omega)|(refine decide_eq_decide.2 ?_;omega)
   exact SMg
  refine zw rfl (zm rfl (zw rfl (zm rfl (zw rfl ?_))))
  first|refine WL.ev (Ev.dX rfl rfl oO) rfl ?_|refine WL.ev (Ev.sub rfl rfl) rfl ?_
  refine zw rfl (zL rfl rfl (ze rfl rfl (zm rfl ?_)));refine zb ?_ ?_<;>intro a6<;>try simp only[qs] at a6
  ·refine zv rfl (zv rfl (zv rfl (zt rfl rfl (zz (g ?_)))));refine ⟨rfl,rfl,q9.g7 rfl ?_ ?_⟩
   ·first|(simp;omega)|(refine decide_eq_decide.2 ?_;omega)
   exact SMg
  refine zw rfl (zm rfl (zw rfl (zn rfl (zw rfl (zG rfl rfl (ze rfl rfl (zz (g ?_))))))));refine ⟨rfl,rfl,q9.g7 rfl ?_ ?_⟩
  ·first|(simp;omega)|(refine decide_eq_decide.2 ?_;omega)
  exact SMg
 refine zy rfl ?_ ?_<;>intro a9<;>try simp only[qs] at a9
 ·refine Sr λ_ y=>?_
  refine WL.ev (Ev.build (vs:=_) (cs:=[_,_,_]) rfl rfl) rfl ?_;refine zss rfl rfl ao c rfl λb2 d I=>?_;(try simp only[qt] at d);have a:=a.s2 I;have c:=d;refine za rfl (zz (y ?_));refine zr (k8.gJ rfl (aX.cell rfl (c.fX rfl rfl)) (aX.tmp rfl) ?_);rw[bsx i (by rw[<- F,<- U];omega)];exact ⟨.inr ⟨rfl,rfl⟩,a⟩
 refine zkk (z (Sr λ_ x=>zm rfl (zm rfl (zm rfl (zm rfl ?_)))));(first|refine zi rfl rfl ?_|refine zo rfl rfl ?_);refine WL.ev (Ev.build (vs:=_) (cs:=[_,_,_]) rfl rfl) rfl ?_;refine zss rfl rfl ao c rfl λb1 d j=>?_;(try simp only[qt] at d);have a:=a.s2 j;have f:=f.q8 c j an;have c:=d;refine za rfl (zz (x ?_));refine zr (k8.gJ rfl (aX.cell rfl (c.fX rfl rfl)) (aX.tmp rfl) ?_);rw[sZ i (by rw[<- F,<- U];omega),<- F];refine ⟨.inl ⟨_,_,rfl,rfl,?_⟩,a⟩;simp only;rw[<- U];exact f
end
section
open Go Sx Wd
theorem a7x(p:Bool)(o:Value)(q:List Nat)(n:Int)(w:World)(C:NU w o q)(B:GW w)(t : -9223372036854775808<=n/\n<=9223372036854775807):Ret Tryz.prog 178 [.bool p,o,.int .i64 n] w λu w'=>DR w' u (cQ p (val q) n)/\Chg [] w w':=by
 have a:=crf w;refine zE3 Tryz.func178 rfl ?_;refine Sr λ_ s=>?_;refine WL.iQ (l:=[.bool false,.slice none 0 0,.int .i64 0]) rfl rfl λH A b m j=>?_;have i:=Nat.le_trans a.size j;have a:=a.trans m;refine za rfl (zz (s (Sr λ_ h=>zm rfl (zm rfl (zm rfl ?_)))));refine WL.call hasF133 rfl rfl (aax p o q n _ (C.q5 a) (B.q5 a) t) λv G F=>?_;obtain ⟨D,f⟩:=F;have a:=a.trans f;have b:=b.k0 f;rcases D with ⟨r,d,x,rfl,g⟩|⟨x,rfl⟩
 ·refine zx rfl rfl (zx rfl rfl ?_);refine zss rfl rfl ao b rfl λz c e=>?_;(try simp only[qt] at c);have a:=a.s2 e;have g:=g.q8 b e an;have b:=c;refine za rfl (zz (h ?_));refine zr (k8.gJ rfl (aX.cell rfl (b.fX rfl rfl)) (aX.tmp rfl) ?_);exact ⟨.inl ⟨r,d,x,rfl,g⟩,a⟩
 refine zx rfl rfl (zx rfl rfl ?_);refine zss rfl rfl ao b rfl λy c k=>?_;(try simp only[qt] at c);have a:=a.s2 k;have b:=c;refine za rfl (zz (h ?_));refine zr (k8.gJ rfl (aX.cell rfl (b.fX rfl rfl)) (aX.tmp rfl) ?_);exact ⟨.inr ⟨x,rfl⟩,a⟩
theorem formD_int{n:Nat}{neg:Bool}(h:n<18446744073709551616): ∃ d,cQ neg n 0=some d:=by
  by_cases h0:n=0
  · exact ⟨_,by rw[h0];exact jJ _ _⟩
  · have g:=yJ h0
    have c:=uJ (n:=n) (k:=64)
    have b:n/2^tz n<=n:=Nat.div_le_self _ _
    have a:=aQ (n:=n/2^tz n) (k:=2)
    have f:(wd (n/2^tz n)).length<=2:=a.2 (Nat.lt_of_le_of_lt b h)
    have e:bl n<=64:=c.2 h
    exact ⟨_,sZ h0 oO⟩
def cZ(n:Int):Dy:=((cQ (decide (n<0)) n.natAbs 0).getD Dy.zero)
theorem bfj{n:Int}(h:n.natAbs<18446744073709551616):cQ (decide (n<0)) n.natAbs 0=some (cZ n):=by
  obtain ⟨d,a⟩:=formD_int (neg:=decide (n<0)) h
  unfold cZ;rw[a];rfl
theorem bcx(n:Int)(w:World)(Z:GW w)(hn : -9223372036854775808<=n/\n<=9223372036854775807):Ret Tryz.prog 144 [.int .i64 n] w λu w'=>DY w' u (cZ n)/\Chg [] w w':=by
 have a:=crf w;refine zE1 Tryz.func144 rfl ?_;refine Sr λ_ U=>?_;refine WL.iQ (l:=[.bool false,.slice none 0 0,.int .i64 0]) rfl rfl λb2 a2 b I H=>?_;have G:=Nat.le_trans a.size H;have a:=a.trans I;refine zz (U (Sr λ_ T=>zm rfl ?_));refine WL.ev (Ev.conv rfl rfl) rfl ?_;rw[vJ];refine za rfl (zz (T (zc λ_ B=>Sr λ_ R=>zm rfl (zL rfl rfl (zz (R ?_))))));refine zy rfl ?_ ?_<;>intro V<;>try simp only[qs] at V
 ·refine zR λ_ O=>?_
  refine zm rfl ?_;refine WL.ev (Ev.neg rfl) rfl ?_;rw[vJ,show (0-n%18446744073709551616)%18446744073709551616=((n.natAbs:Nat):Int) by omega];have z:n.natAbs=n.natAbs:=rfl;refine za rfl ?_;refine WL.nil (O _ _ _ (B ?_));refine Sr λ_ Q=>zm rfl (zL rfl rfl (zm rfl ?_));refine WL.call hasF134 rfl rfl (b8x n.natAbs _ oO) λv w1 A=>?_;obtain ⟨s,k⟩:=A;have a:=a.trans k;have b:=b.k0 k;refine WL.call hasF133 rfl rfl (aax _ _ _ 0 _ s (Z.q5 a) oO) λv w2 A=>?_;obtain ⟨J,j⟩:=A;rw[g6,z,bfj oO] at J;rcases J with ⟨r,d,y,rfl,c⟩|⟨y,rfl⟩
  rotate_left
  · cases y
  cases y;have a:=a.trans j;have b:=b.k0 j;refine zm rfl (zx rfl rfl (zx rfl rfl ?_));refine WL.iQ (l:=[.bool false,.slice none 0 0,.int .i64 0]) rfl rfl λb4 M f e g=>?_;have o:=Nat.le_trans a.size g;have a:=a.trans e;have c:=c.q5 e;have t:=zdd b.lt g;have b:=b.k0 e;refine zss rfl rfl ao f rfl λa1 h p=>?_;(try simp only[qt] at h);have a:=a.s2 p;have b:=b.kq p;have c:=c.q8 f p an;have f:=h;refine za rfl (zz (Q (Sr λ_ F=>zg f rfl ?_)));refine zss rfl rfl ao b rfl λa0 i x=>?_;(try simp only[qt] at i);have a:=a.s2 x;have c:=c.q8 b x an;have b:=i;refine zz (F ?_);refine zr (k8.qJ rfl (aX.cell rfl (b.fX rfl rfl)) ?_);exact ⟨⟨⟨_,rfl,c⟩⟩,a⟩
 rw[show n%18446744073709551616=((n.natAbs:Nat):Int) by omega];have z:n.natAbs=n.natAbs:=rfl;refine zkk (B (Sr λ_ D=>zm rfl (zL rfl rfl (zm rfl ?_))));refine WL.call hasF134 rfl rfl (b8x n.natAbs _ oO) λv w3 A=>?_;obtain ⟨s,k⟩:=A;have a:=a.trans k;have b:=b.k0 k;refine WL.call hasF133 rfl rfl (aax _ _ _ 0 _ s (Z.q5 a) oO) λv w4 A=>?_;obtain ⟨J,j⟩:=A;rw[g6,z,bfj oO] at J;rcases J with ⟨r,d,y,rfl,c⟩|⟨y,rfl⟩
 rotate_left
 · cases y
 cases y;have a:=a.trans j;have b:=b.k0 j;refine zm rfl (zx rfl rfl (zx rfl rfl ?_));refine WL.iQ (l:=[.bool false,.slice none 0 0,.int .i64 0]) rfl rfl λb4 M f e g=>?_;have o:=Nat.le_trans a.size g;have a:=a.trans e;have c:=c.q5 e;have t:=zdd b.lt g;have b:=b.k0 e;refine zss rfl rfl ao f rfl λY h m=>?_;(try simp only[qt] at h);have a:=a.s2 m;have b:=b.kq m;have c:=c.q8 f m an;have f:=h;refine za rfl (zz (D (Sr λ_ C=>zg f rfl ?_)));refine zss rfl rfl ao b rfl λX i q=>?_;(try simp only[qt] at i);have a:=a.s2 q;have c:=c.q8 b q an;have b:=i;refine zz (C ?_);refine zr (k8.qJ rfl (aX.cell rfl (b.fX rfl rfl)) ?_);exact ⟨⟨⟨_,rfl,c⟩⟩,a⟩
def BR(w:World)(u:Value)(a b:Option Dy):Prop:=
  (∃ x y rx ry,a=some x/\b=some y/\u = .tuple [.agg [.bool x.neg,rx,.int .i64 x.e].toArray,.agg [.bool y.neg,ry,.int .i64 y.e].toArray,.int .i64 0].toArray/\NU w rx (wd x.m)/\NU w ry (wd y.m))\/
  ((a=none\/b=none)/\∃ n1 v1 e1 n2 v2 e2,u = .tuple [.agg [.bool n1,v1,.int .i64 e1].toArray,.agg [.bool n2,v2,.int .i64 e2].toArray,.int .i64 2].toArray/\v1.oneCell'=true/\v2.oneCell'=true)
theorem dsx(na nb:Bool)(va vb:Value)(la lb:List Nat)(ea eb:Int)(w:World)(H:NU w va la)(z:NU w vb lb)(hg:GW w)(d3 : -9223372036854775808<=ea/\ea<=9223372036854775807)(d0 : -9223372036854775808<=eb/\eb<=9223372036854775807):Ret Tryz.prog 135 [.agg [.bool na,va,.int .i64 ea].toArray,.agg [.bool nb,vb,.int .i64 eb].toArray] w λu w'=>BR w' u (cQ na (val la) ea) (cQ nb (val lb) eb)/\Chg [] w w':=by
 have a:=crf w;have f8:=H.one;have f7:=z.one;refine zE2 Tryz.func135 rfl ?_;refine Sr λ_ c9=>?_;refine WL.cgj rfl rfl rfl λb2 f4 i F a8=>?_;have a7:=Nat.le_trans a.size a8;have a:=a.trans F;have H:=H.q5 F;have z:=z.q5 F;refine WL.cgj rfl rfl rfl λb3 f3 h y J=>?_;have a6:=Nat.le_trans a.size J;have a:=a.trans y;have H:=H.q5 y;have z:=z.q5 y;have c0:=zdd i.lt J;have i:=i.k0 y;refine WL.iQ (l:=[.bool false,.slice none 0 0,.int .i64 0]) rfl rfl λb4 f2 b o A=>?_;have a5:=Nat.le_trans a.size A;have a:=a.trans o;have H:=H.q5 o;have z:=z.q5 o;have b9:=zdd i.lt A;have i:=i.k0 o;have b7:=zdd h.lt A;have h:=h.k0 o;refine WL.iQ (l:=[.bool false,.slice none 0 0,.int .i64 0]) rfl rfl λb5 f1 c m x=>?_;have a4:=Nat.le_trans a.size x;have a:=a.trans m;have H:=H.q5 m;have z:=z.q5 m;have b8:=zdd i.lt x;have i:=i.k0 m;have b6:=zdd h.lt x;have h:=h.k0 m;have b1:=zdd b.lt x;have b:=b.k0 m;refine za rfl (zz (c9 (Sr λ_ Z=>zf rfl (zl i rfl rfl (zf rfl (zl i rfl rfl (zf rfl (zl i rfl rfl ?_))))))));refine WL.call hasF133 rfl rfl (aax na va la ea _ H (hg.q5 a) d3) λv w1 h'=>?_;obtain ⟨d5,G⟩:=h';have a:=a.trans G;have h:=h.k0 G;have b:=b.k0 G;have c:=c.k0 G;have z:=z.q5 G;rcases d5 with ⟨r1,d1,O,rfl,d⟩|⟨O,rfl⟩
 ·refine zm rfl (zx rfl rfl (zx rfl rfl ?_));refine zss rfl rfl ao b rfl λe6 q k=>?_;(try simp only[qt] at q);have a:=a.s2 k;have h:=h.kq k;have c:=c.kq k;have z:=z.q8 b k an;have d:=d.q8 b k an;have b:=q;refine za rfl (zz (Z (zc λ_ Y=>Sr λ_ c8=>zm rfl (zq rfl rfl (zz (c8 ?_))))));refine CW.nZ rfl ?_;refine zR λ_ T=>?_;refine zf rfl (zl h rfl rfl (zf rfl (zl h rfl rfl (zf rfl (zl h rfl rfl ?_)))));refine WL.call hasF133 rfl rfl (aax nb vb lb eb _ z (hg.q5 a) d0) λv w2 h'=>?_;obtain ⟨d4,I⟩:=h';have a:=a.trans I;have b:=b.k0 I;have c:=c.k0 I;have d:=d.q5 I;rcases d4 with ⟨r2,d2,M,rfl,g⟩|⟨M,rfl⟩
  ·refine zm rfl (zx rfl rfl (zx rfl rfl ?_));refine zss rfl rfl ao c rfl λe5 p n=>?_;(try simp only[qt] at p);have a:=a.s2 n;have b:=b.kq n;have d:=d.q8 c n an;have g:=g.q8 c n an;have c:=p;refine za rfl ?_;refine WL.nil (T _ _ _ (Y ?_));refine zc λ_ c7=>?_;refine CW.dgx 6 b c rfl cJ λe9 X e f=>?_;have a:=a.trans f;have b:=b.k0 f;have c:=c.k0 f;have d:=d.q5 f;have g:=g.q5 f;refine wh 0 rfl e (λ_ j=>Ev.oQ rfl rfl j.1 rfl) (wh 1 rfl e (λ_ j=>Ev.oQ rfl rfl j.2 rfl) (wh 2 rfl e (eM rfl) ?_));refine WH.same1 3 rfl oR rfl rfl rfl ao oO e λe4 e t=>?_;have a:=a.s2 t;have d:=d.q8 b t an;have g:=g.q8 b t an;have b:=e.1;have c:=e.2;refine WH.same2 4 rfl oR rfl rfl rfl ao oO e λe3 e s=>?_;have a:=a.s2 s;have d:=d.q8 c s an;have g:=g.q8 c s an;have b:=e.1;have c:=e.2;refine wh 5 rfl e (eA rfl) ?_;refine WH.done oR (X _ _ _ ?_);refine c7 ?_;refine zr (k8.ckq rfl (aX.cell rfl (b.fX rfl rfl)) (aX.cell rfl (c.fX rfl rfl)) (aX.tmp rfl) ?_);exact ⟨.inl ⟨d1,d2,r1,r2,O,M,rfl,d,g⟩,a⟩
  refine zm rfl (zx rfl rfl (zx rfl rfl ?_));refine zss rfl rfl ao c rfl λe2 p r=>?_;(try simp only[qt] at p);have a:=a.s2 r;have b:=b.kq r;have d:=d.q8 c r an;have c:=p;refine za rfl ?_;refine WL.nil (T _ _ _ (Y ?_));refine zc λ_ a3=>?_;refine CW.dgx 6 b c rfl cJ λe8 V e f=>?_;have a:=a.trans f;have b:=b.k0 f;have c:=c.k0 f;have d:=d.q5 f;refine wh 0 rfl e (λ_ j=>Ev.oQ rfl rfl j.1 rfl) (wh 1 rfl e (λ_ j=>Ev.oQ rfl rfl j.2 rfl) (wh 2 rfl e (eM rfl) ?_));refine WH.same1 3 rfl oR rfl rfl rfl ao oO e λe1 e D=>?_;have a:=a.s2 D;have d:=d.q8 b D an;have b:=e.1;have c:=e.2;refine WH.same2 4 rfl oR rfl rfl rfl ao oO e λe0 e C=>?_;have a:=a.s2 C;have d:=d.q8 c C an;have b:=e.1;have c:=e.2;refine wh 5 rfl e (eA rfl) ?_;refine WH.done oR (V _ _ _ ?_);refine a3 ?_;refine zr (k8.ckq rfl (aX.cell rfl (b.fX rfl rfl)) (aX.cell rfl (c.fX rfl rfl)) (aX.tmp rfl) ?_);exact ⟨.inr ⟨.inr M,_,_,_,_,_,_,rfl,d.one,rfl⟩,a⟩
 refine zm rfl (zx rfl rfl (zx rfl rfl ?_));refine zss rfl rfl ao b rfl λd9 q B=>?_;(try simp only[qt] at q);have a:=a.s2 B;have c:=c.kq B;have b:=q;refine za rfl (zz (Z (zc λ_ a2=>Sr λ_ a1=>zm rfl (zq rfl rfl (zz (a1 ?_))))));refine CW.oX rfl ?_;refine zkk (a2 (zc λ_ a0=>?_));refine CW.dgx 6 b c rfl cJ λe7 U e f=>?_;have a:=a.trans f;have b:=b.k0 f;have c:=c.k0 f;refine wh 0 rfl e (λ_ j=>Ev.oQ rfl rfl j.1 rfl) (wh 1 rfl e (λ_ j=>Ev.oQ rfl rfl j.2 rfl) (wh 2 rfl e (eM rfl) ?_));refine WH.same1 3 rfl oR rfl rfl rfl ao oO e λd8 e R=>?_;have a:=a.s2 R;have b:=e.1;have c:=e.2;refine WH.same2 4 rfl oR rfl rfl rfl ao oO e λd7 e Q=>?_;have a:=a.s2 Q;have b:=e.1;have c:=e.2;refine wh 5 rfl e (eA rfl) ?_;refine WH.done oR (U _ _ _ ?_);refine a0 ?_;refine zr (k8.ckq rfl (aX.cell rfl (b.fX rfl rfl)) (aX.cell rfl (c.fX rfl rfl)) (aX.tmp rfl) ?_);exact ⟨.inr ⟨.inl O,_,_,_,_,_,_,rfl,rfl,rfl⟩,a⟩
structure KA2(X Y:List Nat)(w:World)(b:Nat)(g:Nat×List Nat×Nat)(wr:World):Prop where
  a:dxx X Y g.1 g.2.1 g.2.2
  ob:OB wr b 162 g.2.1
  chg:Chg [] w wr
theorem dsum_spec(va vb:Value)(s r:List Nat)(w:World)(ha:NU w va s)(hb:NU w vb r)(e2:s.length<70368744177664)(e1:r.length<70368744177664):Ret Tryz.prog 168 [va,vb] w λu w'=>∃ L,NU w' u L/\val L=val s+val r/\Chg [] w w':=by
 obtain ⟨⟨a1,c1,rfl,b7,a3⟩,a7,e4⟩:=ha;obtain ⟨⟨a2,c2,rfl,b6,a0⟩,a6,e3⟩:=hb;have a:=crf w;refine zE2 Tryz.func168 rfl ?_;refine Sr λ_ b5=>za rfl (zz (b5 ?_));refine CW.anx (λD s' w'=>D=[]/\w=w'/\∃ xa ca xb cb X Y,RW w xa (X.map kQ)/\W X/\RW w xb (Y.map kQ)/\W Y/\Y.length<=X.length/\X.length<70368744177664/\val X+val Y=val s+val r/\q9 [(0,.slice xa X.length ca),(1,.slice xb Y.length cb)] s') ?_ ?_
 ·refine Sr λ_ b4=>zm rfl (zn rfl (zm rfl (zn rfl (zL rfl rfl (zz (b4 ?_))))));refine zy rfl ?_ ?_<;>intro c0<;>try simp only[qs] at c0
  ·refine zS λ_ b1=>zm rfl (zm rfl (za rfl (za rfl (zz (b1 ?_)))));exact ⟨rfl,rfl,a2,c2,a1,c1,r,s,a0,a6,a3,a7,by omega,by omega,by omega,(by repeat (first|exact q9.nil|refine q9.cons rfl ?_))⟩
  refine zkk ?_;exact ⟨rfl,rfl,a1,c1,a2,c2,s,r,a3,a7,a0,a6,by omega,by omega,rfl,(by repeat (first|exact q9.nil|refine q9.cons rfl ?_))⟩
 rintro _ s' _ ⟨rfl,rfl,xa,ca,xb,cb,X,Y,j,f,Z,h,c3,e9,c4,V⟩;refine CW.sub V ?_;refine Sr λ_ b3=>zm rfl (zn rfl ?_);(first|refine zi rfl rfl ?_|refine zo rfl rfl ?_);refine WL.baj (((X).length+1)) (((X).length+1)) rfl rfl oO oO oO oO oO rfl λa8 d2 b q m=>?_;have t:=Nat.le_trans a.size m;have a:=a.trans q;refine za rfl (zz (b3 (Sr λ_ b2=>za rfl (zz (b2 (zc λ_ R=>Sr λ_ Q=>zm rfl (zn rfl (zm rfl (zz (Q (CW.block ?_)))))))))));refine CW.loop (S:=λg:Nat×List Nat×Nat=>[(0,.slice xa X.length ca),(1,.slice xb Y.length cb),(5,.slice (some ⟨a8,0,none⟩) (X.length+1) (X.length+1)),(6,.int .u32 (g.2.2:Int)),(21,.int .i64 (X.length:Int)),(22,.int .i64 (g.1:Int))]) (Inv:=KA2 X Y w a8) (mu:=λg=>X.length-g.1) ((0,List.replicate (X.length+1) 0,0)) ?_ ?_ ?_
 ·exact ⟨dxx.zero oS (oZ _),b,a⟩
 ·exact SLp
 rintro ⟨i,L,c⟩ wr ⟨e,b,a⟩;dsimp only at e b a;have e5:=e.le;have f0:=e.len;have e6:=e.c1;refine Sr λ_ O=>zL rfl rfl (zz (O (zc λ_ M=>?_)));refine zy rfl ?_ ?_<;>intro b9<;>try simp only[qs] at b9
 ·refine zkk (M (zc λ_ l=>CW.block (Sr λ_ J=>zm rfl (za rfl (zz (J (Sr λ_ I=>za rfl (zz (I (zc λ_ k=>Sr λ_ H=>zm rfl (zm rfl (zn rfl (zL rfl rfl (zz (H ?_)))))))))))))));refine zy rfl ?_ ?_<;>intro b8<;>try simp only[qs] at b8
  ·refine zR λ_ C=>?_
   refine zm rfl (zm rfl ?_);refine WL.ev (Ev.ixR (i) rfl rfl (Z.q5 a) oO oO oT) rfl ?_;refine WL.ev (Ev.load rfl rfl ((Z.q5 a).u32 oF)) rfl ?_;have d6:=h.getD (i);refine za rfl ?_;refine WL.nil (C _ _ _ (k ?_));refine zR λ_ B=>?_;refine zm rfl (zm rfl (zm rfl (zm rfl ?_)));refine WL.ev (Ev.ixR (i) rfl rfl (j.q5 a) oO oO oT) rfl ?_;refine WL.ev (Ev.load rfl rfl ((j.q5 a).u32 oF)) rfl ?_;have T:=f.getD (i);refine zm rfl (zm rfl ?_);refine WL.call hasF229 rfl rfl (btj (X.getD i 0) (Y.getD i 0) c _ (f.getD i) (h.getD i) oO) λv w1 h'=>?_;obtain ⟨rfl,rfl⟩:=h';refine zm rfl (zx rfl rfl (zx rfl rfl ?_));refine WL.ev (Ev.ixB (i) rfl rfl oO oO) rfl ?_;refine WL.sJ rfl rfl b oF λd1 d p=>?_;have a:=a.s2 p;have b:=d;refine za rfl ?_;refine WL.nil (B _ _ _ (l ?_));refine zS λ_ A=>?_;(first|refine zi rfl rfl ?_|refine zo rfl rfl ?_);refine zm rfl (zz (A ?_));refine ⟨rfl,(i+1,L.set i ((X.getD i 0+Y.getD i 0+c)%4294967296),(X.getD i 0+Y.getD i 0+c)/4294967296),?_,?_,?_⟩
   ·exact SLp
   ·exact ⟨e.step f h oO,b,a⟩
   show X.length-(i+1)<X.length-i;omega
  have e0:Value.int IntKind.u32 0=Value.int IntKind.u32 ((Y.getD i 0:Nat):Int):=by rw[zJ oO];rfl
  rw[e0];refine zkk (k ?_);refine zR λ_ z=>?_;refine zm rfl (zm rfl (zm rfl (zm rfl ?_)));refine WL.ev (Ev.ixR (i) rfl rfl (j.q5 a) oO oO oT) rfl ?_;refine WL.ev (Ev.load rfl rfl ((j.q5 a).u32 oF)) rfl ?_;have T:=f.getD (i);refine zm rfl (zm rfl ?_);refine WL.call hasF229 rfl rfl (btj (X.getD i 0) (Y.getD i 0) c _ (f.getD i) (h.getD i) oO) λv w2 h'=>?_;obtain ⟨rfl,rfl⟩:=h';refine zm rfl (zx rfl rfl (zx rfl rfl ?_));refine WL.ev (Ev.ixB (i) rfl rfl oO oO) rfl ?_;refine WL.sJ rfl rfl b oF λd0 d o=>?_;have a:=a.s2 o;have b:=d;refine za rfl ?_;refine WL.nil (z _ _ _ (l ?_));refine zS λ_ y=>?_;(first|refine zi rfl rfl ?_|refine zo rfl rfl ?_);refine zm rfl (zz (y ?_));refine ⟨rfl,(i+1,L.set i ((X.getD i 0+Y.getD i 0+c)%4294967296),(X.getD i 0+Y.getD i 0+c)/4294967296),?_,?_,?_⟩
  ·exact SLp
  ·exact ⟨e.step f h oO,b,a⟩
  show X.length-(i+1)<X.length-i;omega
 refine CW.exit ?_;refine R (zc λ_ G=>?_);have a5:i=X.length:=by omega
 subst a5;obtain ⟨U,c5,a4⟩:=e.done c3;rw[c4] at U;refine zR λ_ x=>?_;refine zm rfl (zm rfl (zn rfl (zm rfl ?_)));refine WL.ev (Ev.ixB (X.length) rfl rfl oO oO) rfl ?_;refine WL.sJ rfl rfl b oF λc9 d n=>?_;have a:=a.s2 n;have b:=d;refine WL.nil (x _ _ _ (G ?_));refine Sr λ_ F=>zm rfl (za rfl (zz (F ?_)));refine zr (zr1 rfl rfl ?_);exact ⟨_,NU.mJ b c5 (by rw[a4];omega) (by rw[a4]) (Nat.le_refl _),U,a⟩
end
end Go.Proofs.YtomlallhlakhfaaGreatDoor