/- Part 9 of what the proof rests on. No condition. -/
import Derived.Test.YtomlallhlakhfaaGreatDoorZd8
import Derived.WalkKit
import Derived.ProofKit
import Derived.OpenShut
import Derived.ChangeOld
import Derived.Below
import Derived.Deep.Slices
import Derived.Laws.Cover2
import Derived.LaidMore
import Derived.SizedLaws
import Derived.SevenTiedAt
import Derived.Stop.Joined
import Derived.Test.YtomlallhlakhfaaGreatDoorRows
import Derived.LaidHandle
import Derived.ChangeMaps5
import Derived.Stop.ErrReads
set_option linter.unusedVariables false
set_option linter.unusedSimpArgs false
set_option maxRecDepth 100000
set_option maxHeartbeats 4000000
namespace Go.Proofs.YtomlallhlakhfaaGreatDoor
section
open Go Sx Wd Fl
def c3q(w:World)(k:Nat)(bs:List Nat)(pv:Value)(e:Int):Prop:=
  (∃ S b,akj bs=some S/\pv = .pointer (some ⟨b,0,none⟩)/\e=0/\ShM 91 w b S/\k<=b)\/(akj bs=none/\pv = .pointer none/\e=210)
theorem c3q.q5{w w':World}{k:Nat}{c:List Nat}{a:Value}{e:Int}(h:c3q w k c a e)(d:Chg [] w w'):c3q w' k c a e:=by
  rcases h with ⟨S,b,l,j,i,g,f⟩|h
  · exact .inl ⟨S,b,l,j,i,g.q5 d,f⟩
  · exact .inr h
theorem c3q.azq{w w':World}{k lo m:Nat}{c:List Nat}{a v:Value}{e:Int}{cs:List Value}(h:c3q w k c a e)(d:PQ w 5 1 lo v m cs)(f:Chg v.ownBlock.toList w w'):c3q w' k c a e:=by
  rcases h with ⟨S,b,n,l,j,i,g⟩|h
  · exact .inl ⟨S,b,n,l,j,i.azq d f,g⟩
  · exact .inr h
structure KDd(bs:List Nat)(g0 cx k:Nat)(pv:Value)(e:Int)(w0:World)(g:Nat×List Nat)(w:World):Prop where
  hi:g.1<=bs.length+2
  hl:g.2.length=bs.length+2
  q:PQ w 5 1 w0.heap.size (.slice (some ⟨g0,0,none⟩) (bs.length+2) cx) (bs.length+2) (g.2.map u8v)
  d:c3q w k bs pv e
  ch:Chg [] w0 w
theorem decoded_spec(ab:Option Addr)(c:List Nat)(cb:Nat)(w:World)(a6:GW w)(O:RW w ab (c.map u8v))(hB:B8 c)(hL:c.length<=140737488351232):Ret Tryz.prog 27 [.slice ab c.length cb] w λu w'=>(∃ pv e,u = .tuple [pv,.int .i64 e,.bool true].toArray/\c3q w' w.heap.size c pv e)/\Chg [] w w':=by
 have a:=crf w;refine zE1 Tryz.func27 rfl ?_;refine Sr λ_ a4=>za rfl (za rfl (za rfl (zz (a4 (Sr λ_ a3=>?_)))));refine WL.empty8 (lo:=w.heap.size) a.size rfl λc1 b7 d U=>?_;have a:=a.ta U;refine zm rfl ?_;refine WL.app8 (l:=[]) (news:=c) rfl rfl d rfl (O.q5 a) a.size (by simp only[List.length_nil];omega) (by simp only[List.length_nil];omega) rfl λc0 w12 r T b5=>?_;have a:=d.frame T a (Nat.le_refl _);rw[List.nil_append] at r;have d:=r;refine za rfl (zz (a3 (Sr λ_ a2=>zm rfl ?_)));refine WL.buildSlice (m:=2) (cs:=[u8v (71),u8v (72)]) oD oD rfl oR rfl λb1 Z k=>?_;have n:=k.chg;have y:=k.ge;have X:YB Z b1 _ [71,72]:=k.at_;have A:=Nat.le_trans a.size y;have a:=a.ta n;have d:=d.q5 n;refine WL.app8 (l:=c) (news:=[71,72]) rfl rfl d rfl X.row a.size (by simp only[List.length_cons,List.length_nil];omega) (by simp only[List.length_cons,List.length_nil];omega) rfl λb9 Y M R b4=>?_;have a:=d.frame R a (Nat.le_refl _);have d:=M;obtain ⟨z,o,rfl,p,f,V⟩:=d.bwq;have h:(c++[71,72]).length=c.length+2:=by simp
 rw[h] at p d;have x:RW Y z (c.map u8v):=λi u hu=>f i u (by rw[List.map_append,List.getElem?_append_left (List.getElem?_eq_some_iff.1 hu).1];exact hu);refine za rfl (zz (a2 (Sr λ_ a1=>zm rfl (zm rfl (zn rfl ?_)))));rw[h];refine WL.ev (Ev.c4j (c.length) rfl rfl rfl oO) rfl ?_;refine WL.call hasF25 rfl rfl (bjj z c o _ x oO V hB oO (a6.q5 a)) λv w1 h'=>?_;obtain ⟨hD,hC⟩:=h';have t:=a.size;obtain ⟨pv,e,rfl,j⟩ : ∃ pv e,v = .tuple [pv,.int .i64 e].toArray/\c3q w1 w.heap.size c pv e:=by
   rcases hD with ⟨S,b,h1,h2,h3,h4,-⟩|⟨h1,h2⟩
   · exact ⟨_,_,h2,.inl ⟨S,b,h1,rfl,rfl,h3,Nat.le_trans t h4⟩⟩
   exact ⟨_,_,h2,.inr ⟨h1,rfl,rfl⟩⟩
 have a:=a.ta hC;have d:=d.q5 hC;have f:=f.q5 hC;refine zm rfl (zx rfl rfl (zx rfl rfl (za rfl (za rfl (zz (a1 (Sr λ_ a0=>zm rfl ?_)))))));refine WL.ev (Ev.toStr (l:=c++[71,72]) rfl (by rw[h]) f) rfl ?_;refine zm rfl ?_;refine WL.ev (Ev.toStr (l:=c) rfl rfl (O.q5 a)) rfl ?_;refine WL.ev (Ev.addS rfl rfl (by rw[bA_size];have:(⟨#[71,72]⟩:ByteArray).size=2:=rfl;omega)) rfl ?_;rw[show bA c++(⟨#[71,72]⟩:ByteArray)=bA (c++[71,72]) from (bA_append c [71,72]).symm];refine WL.ev (Ev.eqlStr rfl rfl) rfl ?_;rw[decide_eq_true rfl];obtain ⟨s,rfl⟩ : ∃ s,z=some ⟨s,0,none⟩:=by
   rcases d with ⟨q,_⟩|⟨s,_,_,q,_⟩
   · cases q
   cases q;exact ⟨s,rfl⟩
 refine za rfl (zz (a0 (zc λ_ J=>Sr λ_ I=>za rfl (zz (I (CW.block ?_))))));refine CW.loop (S:=λg:Nat×List Nat=>[(5,.slice (some ⟨s,0,none⟩) (c.length+2) o),(6,pv),(7,.int .i64 e),(8,.bool true),(9,.int .i64 (g.1:Int))]) (Inv:=KDd c s o w.heap.size pv e w) (mu:=λg=>c.length+2-g.1) ((0,c++[71,72])) ?_ ?_ ?_
 ·exact ⟨Nat.zero_le _,h,d,j,a⟩
 ·exact SLp
 rintro ⟨i,l⟩ wr ⟨hi,hl,d,j,a⟩;dsimp only at hi hl d;dsimp only;refine zc λ_ H=>Sr λ_ G=>zm rfl (zm rfl (zn rfl (zL rfl rfl (zz (G ?_)))));refine zy rfl ?_ ?_<;>intro a7<;>try simp only[qs] at a7
 ·refine zkk (H (zc λ_ F=>CW.block ?_));refine zR λ_ C=>?_
  refine zm rfl (zm rfl ?_);refine WL.ev (Ev.ixB (i) rfl rfl rfl oO) rfl ?_;refine WL.storePQ (u:=u8v 83) rfl rfl rfl rfl d (by rw[List.length_map];omega) λws a5 Q=>?_;have j:=j.azq d (v:=.slice (some ⟨s,0,none⟩) (c.length+2) o) Q;have a:=d.frame (v:=.slice (some ⟨s,0,none⟩) (c.length+2) o) Q a (Nat.le_refl _);have d:=a5;refine WL.nil (C _ _ _ (F ?_));refine zS λ_ B=>zm rfl ?_;(first|refine zi rfl rfl ?_|refine zo rfl rfl ?_);refine za rfl (zz (B ?_));refine ⟨rfl,(i+1,l.set i 83),?_,?_,?_⟩
  ·exact SLp
  ·exact ⟨by dsimp only;omega,by dsimp only;rw[List.length_set];exact hl,by dsimp only;rw[List.map_set];exact d,j,a⟩
  show c.length+2-(i+1)<c.length+2-i;omega
 refine CW.exit ?_;refine J (Sr λ_ D=>zm rfl (zm rfl (zm rfl (za rfl (za rfl (za rfl (zz (D ?_))))))));refine zr ?_;refine k8.ret3 rfl rfl rfl rfl ?_;exact ⟨⟨pv,e,rfl,j⟩,a⟩
end
section
open Go Sx Wd
open Go.ChangeShapes Go.WideShapes Go.ChangeAt Go.WideMaps Go.WideElems Go.RowKit
theorem own:ownKnob Tryz.prog.godebug=none:=by kernel_rfl
theorem laidOut:laidOutB Tryz.prog=true:=by kernel_rfl
theorem door_met(os:Os)(args:Array Value):laidMetH Tryz.prog [("math/bits.deBruijn32tab",Rows.laid_math_bits_deBruijn32tab)] ((World.doorLaid Tryz.prog 400 os).forCall (λ_ _=>0) ⟨#[],args,[]⟩).memory:=
  laidMetH_of_parts3 (fuel:=8) (laidMet_of_run' 8 oR oR) oR oR
theorem gDeb:Tryz.prog.globalNamed "math/bits.deBruijn32tab"=some 6:=by kernel_rfl
theorem tDeb:(Tryz.prog.globals[6]?).map (·.type)=some 320:=by kernel_rfl
theorem deb_data{H:Type}: (Rows.laid_math_bits_deBruijn32tab:DataW H) = .agg (deb.map λn:Nat=>.lit (.int .u8 (n:Int))):=rfl
theorem gw_of_laid{W:World}(h:laidMetH Tryz.prog [("math/bits.deBruijn32tab",Rows.laid_math_bits_deBruijn32tab)] W):GW W:=by
  rw[MakeChecks.laidMetH_plain _ _ _ oR] at h
  obtain ⟨C,⟨F,A,f,G,p0,B,e,o,m,r,_,_⟩,_,_⟩:=h
  obtain rfl:=Option.some.inj (gDeb.symm.trans e)
  obtain rfl:=Option.some.inj (tDeb.symm.trans o)
  obtain ⟨g,D,rfl,d,s,t,q⟩:=DataW.trod_array Tryz.underlying320 r
  have z:Tryz.prog.cellsOf 5=1:=by kernel_rfl
  simp only[Prod.mk.injEq] at d
  intro i p
  have b:=q i p
  rw[z,Nat.mul_one] at b
  have c:g[i]?=some (g[i]'(by omega)):=List.getElem?_eq_getElem oO
  rw[c] at b
  obtain ⟨k,y,x,_⟩:=DataW.trod_int Tryz.underlying5 b
  have j:(deb.map λn:Nat=>(DataW.lit (.int .u8 (n:Int)):DataW Unit))=g.map (·.1):=by
    have:=d.1
    rw[deb_data] at this
    exact DataW.agg.inj this
  have a:(deb.map λn:Nat=>(DataW.lit (.int .u8 (n:Int)):DataW Unit))[i]?=some (.lit (.int .u8 ((deb.getD i 0:Nat):Int))):=by
    rw[List.getElem?_map,List.getElem?_eq_getElem (show i<deb.length from p),List.getD_eq_getElem?_getD,List.getElem?_eq_getElem (show i<deb.length from p)];rfl
  rw[j,List.getElem?_map,c] at a
  simp only[Option.map_some] at a
  rw[x] at a
  have u:k=((deb.getD i 0:Nat):Int):=by
    have:=Option.some.inj a
    simp only[DataW.lit.injEq,Lit.int.injEq,true_and] at this
    exact this
  subst u
  have v:f[i]?=some (.int .u8 ((deb.getD i 0:Nat):Int)):=by
    have w:(f.toList.drop i)[0]?=some (.int .u8 ((deb.getD i 0:Nat):Int)):=by
      have:=congrArg (λl:List Value=>l[0]?) y
      simpa using this
    simpa using w
  have:=World.var?_cell e m i
  rw[v] at this
  exact this
theorem dqx{H:Type}{enc:TypeId×Value->H}{P:Program}{w:World}{d:Nat}{a:Nat->Bool}{c:Bool}{n:Nat}{e:TypeId}{v:Value}{x:DataW H×List MemPlace}(f:P.underlying e=some (.float .f64))(h:DataW.trod enc P w d a c n e [v]=some x): ∃ b,v = .float .f64 b/\b<18446744073709551616:=by
  cases n with
  | zero=>simp[DataW.trod] at h
  | succ n=>
    simp only[DataW.trod,f] at h
    cases v<;>simp_all
    rename_i k b
    cases k<;>simp_all [Lit.wf]
theorem open_float1{H:Type}{enc:TypeId×Value->H}{P:Program}{w:World}{e n:Nat}{a:Nat->Bool}{c:Bool}{t:TypeId}{v:Value}{d:DataW H}{i:List MemPlace}(j:P.underlying t=some (.float .f64))(f:Value.okWide P w .any n t v)(h:DataW.Trod enc P w e a c t v d i):
    ∃ b,v = .float .f64 b/\b<18446744073709551616:=by
  obtain ⟨g,m⟩:=h
  simp only[Value.okWide,j,Cell.okWide] at f
  have l : ∃ k b,v = .float k b:=by cases v<;>simp_all [Cell.ok]
  obtain ⟨k,b,rfl⟩:=l
  exact dqx j (show DataW.trod enc P w e a c g t [.float k b]=some (d,i) from by simpa[Value.cells] using m)
open Go.ChangeShapes Go.WideShapes Go.ChangeAt Go.WideMaps Go.WideElems Go.RowKit
theorem a2j{H:Type}{enc:TypeId×Value->H}{P:Program}{w:World}{c:Nat}{a:Nat->Bool}{b:Bool}{n:Nat}{e:TypeId}{v:Value}{x:DataW H×List MemPlace}(d:P.underlying e=some (.int .i64))(h:DataW.trod enc P w c a b n e [v]=some x): ∃ z,v = .int .i64 z/\(-9223372036854775808<=z/\z<=9223372036854775807):=by
  obtain ⟨z,g,_,f⟩:=DataW.trod_int d h
  exact ⟨z,by simpa using g,bounds_i64 f⟩
open Go.ChangeShapes Go.WideShapes Go.ChangeAt Go.WideMaps Go.WideElems Go.RowKit
def BY(w:World)(v:Value)(l:List Nat):Prop:=∃ a c,v = .slice a l.length c/\RW w a (l.map u8v)/\l.length<=c/\(∀ ad,a=some ad->l≠[]->ad.block<w.heap.size)/\B8 l/\l.length<=140737488351232
theorem cell_u8{H:Type}{enc:TypeId×Value->H}{P:Program}{w:World}{c:Nat}{a:Nat->Bool}{b:Bool}{n:Nat}{e:TypeId}{v:Value}{x:DataW H×List MemPlace}(f:P.underlying e=some (.int .u8))(h:DataW.trod enc P w c a b n e [v]=some x): ∃ z:Nat,v=u8v z/\z<256:=by
  obtain ⟨z,i,_,g⟩:=DataW.trod_int f h
  have d:0<=z/\z<=255:=by simpa[Lit.wf,IntKind.has,IntKind.min,IntKind.max,IntKind.bits,IntKind.signed] using g
  refine ⟨z.toNat,?_,by omega⟩
  have:v = .int .u8 z:=by simpa using i
  rw[this]
  show _=Value.int .u8 ((z.toNat:Nat):Int)
  rw[Int.toNat_of_nonneg d.1]
theorem open_by{H:Type}{enc:TypeId×Value->H}{P:Program}{w:World}{C b0:Nat}{o:Nat->Bool}{A:Bool}{t e:TypeId}{v:Value}{d:DataW H}{X:List MemPlace}(I:P.underlying t=some (.slice e))(he:P.underlying e=some (.int .u8))(hc:P.cellsOf e=1)(hb:P.bytesOf e=1)(k:Value.okWide P w .any b0 t v)(h:DataW.Trod enc P w C o A t v d X)
    (J : ∀ elems spare',d = .slice elems spare'->(elems.length+spare'.length)*P.bytesOf e<=reachBytes) : ∃ l:List Nat,BY w v l:=by
  have g:=k
  obtain ⟨a,len,Q,rfl⟩:=okWide_slice I k
  obtain ⟨U,hf⟩:=h
  rcases Go.Deep.open_slice1 I hc hf with ⟨j,_⟩|⟨F,l,c,m,n,V,D,Pl,j,_,O,a2,Y,G,R⟩
  · simp[Value.cells] at j
    obtain ⟨rfl,rfl,rfl⟩:=j
    exact ⟨[],none,0,rfl,RW.nil,Nat.le_refl _,λF e=>(by cases e),λx G=>(by cases G),by decide⟩
  · simp[Value.cells] at j
    obtain ⟨rfl,rfl,rfl⟩:=j
    have Z:len<=m:=by rw[Y];split<;>omega
    simp only[Prod.mk.injEq] at G
    have T:=J _ _ G.1
    rw[hb] at T
    simp only[List.length_map,List.length_range] at T
    have hr:reachBytes=140737488351232:=by decide
    have s:len<=140737488351232:=by omega
    obtain ⟨f,z⟩:=Go.Deep.choose_lt (α:=Nat) (n:=len) (p:=λi b=>V i=u8v b/\b<256) (λi u=>cell_u8 he (R i oO).2)
    have B:F.block<w.heap.size:=by
      simp only[Value.okWide,I,Cell.okWide,Cell.ok] at g
      obtain ⟨_,_,_,_,row,cells,M,_⟩:=g
      unfold World.shape? at M
      rcases Nat.lt_or_ge F.block w.heap.size with q|q
      · exact q
      · rw[Array.getElem?_eq_none q] at M;cases M
    refine ⟨(List.range len).map f,some F,Q,by simp,λi y r=>?_,by simpa using O,λa e _=>(by cases e;exact B),λy r=>?_,by simpa using s⟩
    · have u:i<len:=by
        by_cases q:i<len
        · exact q
        · rw[List.getElem?_eq_none oT] at r;cases r
      simp[List.getElem?_range u] at r
      subst r
      exact ⟨F,rfl,by rw[(R i oO).1,(z i u).1]⟩
    · obtain ⟨i,u,rfl⟩:=List.mem_map.1 r
      exact (z i (List.mem_range.1 u)).2
end
section
open Go Sx Wd Fl
def AddP(S U:Sh)(e:Int)(S':Sh):Prop:=(1099511627776<S.s.al+U.s.al/\e=2/\S'=S)\/(S.s.al+U.s.al<=1099511627776/\e=0/\S'=S.merge U)
theorem AddP.eq{S U S' a:Sh}{e e':Int}(h:AddP S U e S')(g:AddP S U e' a):e=e'/\S'=a:=by
  rcases h with ⟨b,rfl,rfl⟩|⟨b,rfl,rfl⟩<;>rcases g with ⟨c,rfl,rfl⟩|⟨c,rfl,rfl⟩
  · exact ⟨rfl,rfl⟩
  · omega
  · omega
  · exact ⟨rfl,rfl⟩
theorem AddP.gn{S U S':Sh}{e:Int}(h:AddP S U e S')(a:Gn S)(c:Gn U)(b:S.noE):Gn S'/\S'.noE:=by
  rcases h with ⟨_,_,rfl⟩|⟨d,_,rfl⟩
  · exact ⟨a,b⟩
  · exact ⟨a.merge c d,cux a c b⟩
theorem b7q{T:TypeId}{w w':World}{b:Nat}{S U:Sh}{u:Value}{n:Nat}(f:U.s.al=n)(h:(1099511627776<S.s.al+n/\u = .int .i64 2/\ShM T w' b S/\Chg [b] w w')\/(S.s.al+n<=1099511627776/\u = .int .i64 0/\ShM T w' b (S.merge U)/\Chg [b] w w')):
    ∃ e S',u = .int .i64 e/\AddP S U e S'/\ShM T w' b S'/\Chg [b] w w':=by
  subst f
  rcases h with ⟨d,rfl,c,a⟩|⟨d,rfl,c,a⟩
  · exact ⟨2,S,rfl,.inl ⟨d,rfl,rfl⟩,c,a⟩
  · exact ⟨0,_,rfl,.inr ⟨d,rfl,rfl⟩,c,a⟩
def KqT:List TypeId:=[29,35,9,42,91,148]
def Kq(w w':World):Prop:=∀ b T l,BK w b T l->T∉KqT->BK w' b T l
theorem Kq.refl(w:World):Kq w w:=λb T l h _=>h
theorem Kq.q5{w w' a:World}(h:Kq w w')(c:Chg [] w' a):Kq w a:=λb T l hb h1=>(h b T l hb h1).q5 c
theorem Kp.kq{w w':World}(h:Kp w w'):Kq w w':=λb T l hb h1=>h b T l hb (λe=>h1 (by rw[e];exact List.mem_cons_self ..)) (λe=>h1 (by rw[e];exact List.mem_cons_of_mem _ (List.mem_cons_self ..))) (λe=>h1 (by rw[e];exact List.mem_cons_of_mem _ (List.mem_cons_of_mem _ (List.mem_cons_self ..))))
theorem Kq.q8{w w' a:World}{b:Nat}{T:TypeId}{cs:List Value}(h:Kq w w')(f:BK w' b T cs)(d:Chg [b] w' a)(_ : ∀ c∈cs,abq c=false)(hT:T∈KqT:=by decide):Kq w a:=λb' T' l hb' h1=>(h b' T' l hb' h1).gZ d (by rw[List.mem_singleton];exact BK.neT (h b' T' l hb' h1) f (λe=>h1 (by rw[e];exact hT)))
theorem Kq.nX{w w' a:World}{b:Nat}{T:TypeId}{S:Sh}(h:Kq w w')(e:ShM T w' b S)(c:Chg [b] w' a)(hT:T∈KqT:=by decide):Kq w a:=by
  obtain ⟨i,j,d,g,f⟩:=e
  exact h.q8 d c (notU14 g f) hT
theorem Kq.azq{w w' a:World}{e:TypeId}{d lo m:Nat}{v:Value}{cs:List Value}(h:Kq w w')(b:PQ w' e d lo v m cs)(c:Chg v.ownBlock.toList w' a)(hT:e∈KqT:=by decide):Kq w a:=λb' T' l hb' h1=>b.bk c (h b' T' l hb' h1) (λq=>h1 (by rw[<- q];exact hT))
def StepR(ok:Int)(bs:List Nat)(L:List PS)(C:List (Value×List Nat))(L':List PS)(C':List (Value×List Nat)):Prop:=
  (C'=C/\(ok=1\/ok=7)/\((L'=L/\(ok=1->16<=L.length)/\(L.length<16->akj bs=none))\/∃ b r S,L'=L++[(b,r,S)]/\L.length<16/\(ok=7->akj bs=some S)))\/(L'.length=L.length/\C'.length<=C.length+1/\¬(ok=1\/ok=7))
def NewR(w:World)(k:Nat)(ok:Int)(bs:List Nat)(pv rv:Value)(e:Int):Prop:=
  (∃ S b r,pv = .pointer (some ⟨b,0,none⟩)/\rv = .pointer (some ⟨r,0,none⟩)/\e=0/\ShM 91 w b S/\ShM 148 w r S/\Gn S/\S.noE/\k<=b/\k<=r/\(ok=7->akj bs=some S))\/(ok=7/\akj bs=none/\pv = .pointer none/\rv = .pointer none/\e=210)
theorem PQ.pair{w:World}{lo g m c:Nat}{L:List PS}{n b d:Nat}{S:Sh}(h:PQ w 42 2 lo (.slice (some ⟨g,0,none⟩) m c) m (bej L))(f:L[n]?=some (b,d,S)): ∀ j v,[Value.pointer (some ⟨b,0,none⟩),.pointer (some ⟨d,0,none⟩)][j]?=some v->w.cell? ((⟨g,0+((n:Nat):Int).toNat*2,none⟩:Addr).add j)=some v:=λj v hv=>by
  obtain ⟨a,c',e1,_,hr,_⟩:=h.row
  cases e1
  obtain ⟨p1,p2⟩:=pairC_get L n _ f
  have e : ∀ j,(⟨g,0+((n:Nat):Int).toNat*2,none⟩:Addr).add j=(⟨g,0,none⟩:Addr).add (n*2+j):=λj=>by
    unfold Addr.add
    split<;>split<;>simp_all
  rw[e]
  match j,hv with
  | 0,hv=>cases hv;obtain ⟨ad,e2,hc⟩:=hr (n*2) _ p1;cases e2;exact hc
  | 1,hv=>cases hv;obtain ⟨ad,e2,hc⟩:=hr (n*2+1) _ p2;cases e2;exact hc
  | j+2,hv=>cases hv
theorem PQ.some_{w:World}{e:TypeId}{b lo m c:Nat}{a:Option Addr}{cs:List Value}(h:PQ w e b lo (.slice a m c) m cs)(d:0<m): ∃ g,a=some ⟨g,0,none⟩:=by
  rcases h with ⟨q,rfl,_⟩|⟨g,_,_,q,_⟩
  · omega
  · cases q;exact ⟨g,rfl⟩
theorem Sx.Chg.q5{T:List Nat}{w w' a:World}(h:Chg T w w')(b:Chg [] w' a):Chg T w a:=h.trans (Chg.any b)
theorem bzq{w:World}{T e a:TypeId}{b c d:Nat}{l:List Value}{S U:Sh}(h:BK w b T l)(m:ShM e w c S)(k:ShM a w d U)(g:T≠e:=by decide)(f:T≠a:=by decide):b∉[c,d]:=by
  obtain ⟨_,_,j,_⟩:=m
  obtain ⟨_,_,i,_⟩:=k
  simp only[List.mem_cons,List.not_mem_nil,or_false,not_or]
  exact ⟨BK.neT h j g,BK.neT h i f⟩
theorem c3q.mono{w:World}{k c:Nat}{d:List Nat}{a:Value}{e:Int}(h:c3q w k d a e)(f:c<=k):c3q w c d a e:=by
  rcases h with ⟨S,b,m,l,j,i,g⟩|h
  · exact .inl ⟨S,b,m,l,j,i,Nat.le_trans f g⟩
  · exact .inr h
theorem cex(lo bp:Nat)(L:List PS)(C:List (Value×List Nat))(st:Prop)(ok oo ow om k3 k2 pn pi:Int)(ox:Nat)(i9 k1:Value)(ll bs:List Nat)(w0 w:World)(f0:GW w0)(I:PlM lo w bp L C st)(f:Chg [] w0 w)(n9:w0.heap.size<=lo)(y0:C.length<=100000)(hL:L.length<=1)(x6:ok=7\/ok=2\/ok=4)(n8:ok=1\/ok=7\/0<L.length)(q2:NF w0 i9 ll)(r8:BY w0 k1 bs)(q3 : -9223372036854775808<=oo/\oo<=9223372036854775807)(n6 : -9223372036854775808<=ow/\ow<=9223372036854775807)(e8:ox<18446744073709551616):Ret Tryz.prog 8 [.pointer (some ⟨bp,0,none⟩),.agg [.int .i64 ok,.int .i64 oo,.int .i64 ow,.float .f64 ox,i9,.int .i64 om,.int .i64 k3,.int .i64 k2,.int .i64 pn,.int .i64 pi,k1].toArray] w λu w'=>u = .bool true/\(∃ L' C',PlM lo w' bp L' C' st/\StepR ok bs L C L' C')/\Chg [] w0 w'/\Kq w w':=by
  obtain ⟨ab,cb,rfl,n4,r3,r9,hB,s3⟩:=r8;obtain ⟨⟨t0,s7,rfl,r4,x5⟩,x8,x7⟩:=id q2;have j:=Kq.refl w;have o8:=I;have Y:Chg [] w w:=Chg.refl _ _;refine zE2 Tryz.func8 rfl ?_;refine Sr λ_ q1=>?_;refine zBh rfl rfl rfl f λb3 v7 h d4 v1 o4 f=>?_;have I:=I.q5 d4;have j:=j.q5 d4;have Y:=Y.q5 d4;refine za rfl (zz (q1 (zc λ_ q0=>?_)));refine CW.oJ 25 (decide (ok=1\/ok=7)) ?_ ?_
  · refine zS λ_ l1=>zf rfl (zl h rfl rfl (zq rfl rfl (zm rfl ?_)));refine zb ?_ ?_<;>intro r2<;>try simp only[qs] at r2
    · refine zv rfl (zv rfl (zv rfl (zt rfl rfl (zz (l1 ?_)))));refine ⟨rfl,rfl,q9.g7 rfl ?_ ?_⟩
      · exact AqE
      exact SMg
    refine zw rfl (zf rfl (zw rfl (zl h rfl rfl (zw rfl (zq rfl rfl (ze rfl rfl (zz (l1 ?_))))))));refine ⟨rfl,rfl,q9.g7 rfl ?_ ?_⟩
    · exact AqE
    exact SMg
  refine zy rfl ?_ ?_<;>intro g3<;>try simp only[qs] at g3
  · have a2:ok=1\/ok=7:=g3
    refine Sr λ_ p9=>?_;refine WL.call hasF21 rfl rfl (dcx _) λv w1 Z=>?_;obtain ⟨⟨e3,rfl,a,d2⟩,k⟩:=Z;have d2:=Nat.le_trans Y.size d2;have f:=f.ta k;have h:=h.k0 k;have I:=I.q5 k;have j:=j.q5 k;have Y:=Y.q5 k;refine za rfl (zz (p9 (Sr λ_ p8=>?_)));refine WL.call hasF26 rfl rfl (r21New_spec _) λv w2 Z=>?_;obtain ⟨⟨e0,rfl,d,d1⟩,k⟩:=Z;have d1:=Nat.le_trans Y.size d1;have f:=f.ta k;have h:=h.k0 k;have I:=I.q5 k;have j:=j.q5 k;have Y:=Y.q5 k;have a:=a.q5 k;refine za rfl (zz (p8 (Sr λ_ p7=>za rfl (zz (p7 (Sr λ_ n2=>za rfl (zz (n2 (Sr λ_ n1=>za rfl (zz (n1 ?_)))))))))));refine CW.anx (λD s' w'=>D=[]/\(∃ pv rv e,Sx.look s' 5=some pv/\Sx.look s' 6=some rv/\Sx.look s' 7=some (.int .i64 e)/\Sx.look s' 8=some (.int .i64 e)/\NewR w' w.heap.size ok bs pv rv e)/\PlM lo w' bp L C st/\Kq w w'/\BK w' b3 37 [.int .i64 ok,.int .i64 oo,.int .i64 ow,.float .f64 ox,.slice t0 ll.length s7,.int .i64 om,.int .i64 k3,.int .i64 k2,.int .i64 pn,.int .i64 pi,.slice ab bs.length cb]/\Chg [] w0 w'/\q9 [(0,.pointer (some ⟨bp,0,none⟩)),(9,.bool true),(3,.pointer (some ⟨b3,0,none⟩))] s') ?_ ?_
    · refine Sr λ_ n0=>zf rfl (zl h rfl rfl (zq rfl rfl (zz (n0 ?_))));refine zy rfl ?_ ?_<;>intro g2<;>try simp only[qs] at g2
      · have o3:ok=7:=g2
        refine Sr λ_ m9=>zf rfl (zl h rfl rfl ?_);refine WL.call hasF27 rfl rfl (decoded_spec ab bs cb _ (f0.q5 f) (n4.q5 f) hB s3) λv w3 Z=>?_;obtain ⟨⟨pv,e,rfl,h0⟩,k⟩:=Z;have h0:=h0.mono Y.size;have f:=f.ta k;have h:=h.k0 k;have I:=I.q5 k;have j:=j.q5 k;have Y:=Y.q5 k;refine zm rfl (zx rfl rfl (zx rfl rfl (zx rfl rfl (za rfl (za rfl (za rfl (zz (m9 (zS λ_ l4=>zf rfl (zl h rfl rfl ?_))))))))));refine WL.call hasF28 rfl rfl (djx ab bs cb _ (n4.q5 f) r3 (λad z n8=>Nat.lt_of_lt_of_le (r9 ad z n8) f.size) hB oO) λv w4 Z=>?_;obtain ⟨s4,k⟩:=Z;obtain ⟨rv,rfl,hN⟩ : ∃ rv,v = .tuple [rv,.int .i64 e].toArray/\NewR w4 w.heap.size ok bs pv rv e:=by
          rcases s4 with ⟨S,r,h1,h2,h3,h4,-⟩|⟨h1,h2⟩<;>rcases h0 with ⟨S',b,g1,rfl,rfl,g4,g5⟩|⟨g1,rfl,rfl⟩
          · obtain rfl:S=S':=Option.some.inj (h1.symm.trans g1)
            exact ⟨_,h2,.inl ⟨S,b,r,rfl,rfl,rfl,g4.q5 k,h3,(Gn.read hB h1).1,(Gn.read hB h1).2,g5,Nat.le_trans Y.size h4,λ_=>h1⟩⟩
          · rw[h1] at g1;cases g1
          · rw[h1] at g1;cases g1
          exact ⟨_,h2,.inr ⟨o3,h1,rfl,rfl,rfl⟩⟩
        have f:=f.ta k;have h:=h.k0 k;have I:=I.q5 k;have j:=j.q5 k;refine zm rfl (zx rfl rfl (zx rfl rfl (za rfl (za rfl (zz (l4 ?_))))));exact ⟨rfl,⟨_,rv,e,rfl,rfl,rfl,rfl,hN⟩,I,j,h,f,by (repeat (first|exact q9.nil|refine q9.cons rfl ?_))⟩
      exfalso;have:=g2;omega
    rintro _ s' wJ ⟨rfl,⟨pv,rv,e,h5,h6,h7,h8,hN⟩,I,j,h,f,n3⟩;refine CW.sub (s':=[(5,pv),(6,rv),(7,.int .i64 e),(8,.int .i64 e),(0,.pointer (some ⟨bp,0,none⟩)),(9,.bool true),(3,.pointer (some ⟨b3,0,none⟩))]) (q9.cons h5 (q9.cons h6 (q9.cons h7 (q9.cons h8 n3)))) ?_;refine zc λ_ c7=>Sr λ_ f3=>?_;rcases hN with ⟨S,e3,e0,rfl,rfl,rfl,a,d,hG,c1,r1,r0,d3⟩|⟨o3,d3,rfl,rfl,rfl⟩
    · obtain ⟨⟨vl,vc,vw,ws,G,A,a1,a0,e7⟩,hs,b2⟩:=id I;obtain ⟨al,cl,rfl⟩:=A.sl;obtain ⟨ac,cc,rfl⟩:=a1.sl;obtain ⟨aw,cw,rfl⟩:=a0.sl;have v0:w0.heap.size<=bp:=Nat.le_trans n9 b2;have u7:b3≠bp:=BK.neT h G oD;refine zm rfl ?_;refine WL.ev (Ev.b5q rfl rfl) rfl ?_;refine zm rfl (zw rfl (zm rfl (zw rfl ?_)));refine WL.ev (Ev.b5q rfl rfl) rfl ?_;refine zt rfl rfl (zm rfl (zw rfl (zm rfl (zw rfl (zP rfl (zw rfl (zf rfl (zw rfl ?_))))))));refine WL.ev (Ev.load (v:=.slice al L.length cl) rfl rfl (G.at_ rfl)) rfl ?_;refine zw rfl (zn rfl (zw rfl (zL rfl rfl (zt rfl rfl (zz (f3 ?_))))));refine zy rfl ?_ ?_<;>intro g0<;>try simp only[qs] at g0
      · have d0:L.length<16:=by have:=g0;omega
        refine zR λ_ l3=>?_;refine zm rfl (zm rfl (zP rfl (zf rfl ?_)));refine WL.ev (Ev.load (v:=.slice al L.length cl) rfl rfl (G.at_ rfl)) rfl ?_;refine zm rfl (zm rfl ?_);refine WL.ev (Ev.build (vs:=_) (cs:=[_,_]) rfl rfl) rfl ?_;refine WL.buildSlice (m:=1) (cs:=[.pointer (some ⟨e3,0,none⟩),.pointer (some ⟨e0,0,none⟩)]) oD oD rfl oR rfl λs9 v9 M=>?_;have o7:=M.at_;have f:=f.trans (Chg.any M.chg);have hs:=hs.q5 M.chg;have A:=A.q5 M.chg;have a1:=a1.q5 M.chg;have a0:=a0.q5 M.chg;have a:=a.q5 M.chg;have d:=d.q5 M.chg;have j:=j.q5 M.chg;have G:=G.q5 M.chg;have h:=h.q5 M.chg;refine WL.appQ (lo:=lo) (news:=[.pointer (some ⟨e3,0,none⟩),.pointer (some ⟨e0,0,none⟩)]) (by rfl) oD (by intro c hc;change c∈[_,_] at hc;simp only[List.mem_cons,List.not_mem_nil,or_false] at hc;rcases hc with rfl|rfl<;>rfl) rfl rfl A rfl (Sx.BK.news (show BK _ s9 42 [.pointer (some ⟨e3,0,none⟩),.pointer (some ⟨e0,0,none⟩)] from o7)) (by intro q hq;simp only[List.mem_cons,List.not_mem_nil,or_false] at hq;rcases hq with rfl|rfl<;>rfl) (by intro q hq;simp only[List.mem_cons,List.not_mem_nil,or_false] at hq;rcases hq with rfl|rfl<;>rfl) (by have:=G.lt;omega) oO oD rfl λx4 v8 n5 Q v2=>?_;have hs:=hs.azq A Q;have a1:=a1.other A Q oD;have a0:=a0.other A Q oD;have a:=a.azq A Q;have d:=d.azq A Q;have j:=j.azq A Q;have G:=A.bk Q G oD;have h:=A.bk Q h oD;have f:=A.frame Q f n9;have A:=n5;obtain ⟨z1,y9,rfl⟩:=A.sl;refine zP rfl (zf rfl ?_);refine WL.bJ rfl rfl o1 G oS rfl λv6 f5 X=>?_;(try simp only[qt] at f5);have f:=f.s1 X;have j:=j.q8 G X an;have hs:=hs.q8 G X an;have A:=A.q8 G X an;have a1:=a1.q8 G X an;have a0:=a0.q8 G X an;have a:=a.q8 G X an;have d:=d.q8 G X an;have G:=f5;refine WL.nil (l3 _ _ _ (c7 ?_));refine Sr λ_ m8=>zm rfl (zm rfl (zw rfl (zm rfl (zw rfl (zm rfl (zw rfl (zq rfl rfl ?_)))))));rw[decide_eq_true (rfl)];refine zt rfl rfl (zm rfl (zw rfl (zm rfl (zw rfl ?_))));refine WL.ev (Ev.azj rfl rfl) rfl ?_;refine zw rfl (zm rfl (zw rfl ?_));refine WL.ev (Ev.azj rfl rfl) rfl ?_;refine zw rfl ?_;refine WL.ev (Ev.bbq rfl rfl) rfl ?_;refine zt rfl rfl (za rfl (zz (m8 ?_)));refine zr (zr1 rfl rfl ?_);refine ⟨rfl,⟨_,_,⟨⟨_,_,_,ws,G,?_,a1,a0,e7⟩,o8.s.snocL hs a d hG c1 r1 r0 (by have:=o8.lt;omega),b2⟩,.inl ⟨rfl,a2,.inr ⟨e3,e0,S,rfl,d0,d3⟩⟩⟩,f,j⟩;rw[pairC_snoc,List.length_append];exact A
      have d0 : ¬L.length<16:=by have:=g0;omega
      refine zkk (c7 (Sr λ_ m7=>zm rfl (zm rfl (zw rfl (zm rfl (zw rfl (zm rfl (zw rfl (zq rfl rfl ?_)))))))));rw[decide_eq_true (rfl)];refine zt rfl rfl (zm rfl (zw rfl (zm rfl (zw rfl ?_))));refine WL.ev (Ev.azj rfl rfl) rfl ?_;refine zw rfl (zm rfl (zw rfl ?_));refine WL.ev (Ev.azj rfl rfl) rfl ?_;refine zw rfl ?_;refine WL.ev (Ev.bbq rfl rfl) rfl ?_;refine zt rfl rfl (za rfl (zz (m7 ?_)));refine zr (zr1 rfl rfl ?_);exact ⟨rfl,⟨L,C,⟨⟨_,_,_,ws,G,A,a1,a0,e7⟩,hs,b2⟩,.inl ⟨rfl,a2,.inl ⟨rfl,λ_=>by omega,λz=>absurd z d0⟩⟩⟩,f,j⟩
    refine zm rfl ?_;refine WL.ev (Ev.b5q rfl rfl) rfl ?_;refine zm rfl (zv rfl (zv rfl (ze rfl rfl (zm rfl (zv rfl (zv rfl (zv rfl (zv rfl (zv rfl (zv rfl (ze rfl rfl (zz (f3 ?_)))))))))))));refine CW.oX rfl ?_;refine zkk (c7 (Sr λ_ m6=>zm rfl (zm rfl (zw rfl (zm rfl (zw rfl (zm rfl (zw rfl (zq rfl rfl ?_)))))))));rw[decide_eq_true (rfl)];refine zt rfl rfl (zm rfl (zw rfl (zm rfl (zw rfl ?_))));refine WL.ev (Ev.azj rfl rfl) rfl ?_;refine zw rfl (zm rfl (zw rfl ?_));refine WL.ev (Ev.azj rfl rfl) rfl ?_;refine zw rfl ?_;refine WL.ev (Ev.bbq rfl rfl) rfl ?_;refine zt rfl rfl (za rfl (zz (m6 ?_)));refine zr (zr1 rfl rfl ?_);exact ⟨rfl,⟨L,C,I,.inl ⟨rfl,a2,.inl ⟨rfl,λz=>by omega,λ_=>d3⟩⟩⟩,f,j⟩
  have a2 : ¬(ok=1\/ok=7):=g3;have b9:0<L.length:=by omega
  have x9:L.length=1:=by omega
  refine zkk (q0 (Sr λ_ m5=>zm rfl (zf rfl (zl h rfl rfl ?_))));refine WL.call hasF29 rfl rfl (at_spec lo bp L C st oo _ I q3 b9 oO) λv w5 Z=>?_;obtain ⟨rfl,k⟩:=Z;obtain ⟨n,hn⟩ : ∃ n,n=atP oo L.length:=⟨_,rfl⟩;rw[<- hn];have q4:n<L.length:=by rw[hn];exact atP_lt _ b9
  have f:=f.ta k;have h:=h.k0 k;have I:=I.q5 k;have j:=j.q5 k;refine za rfl (zz (m5 (zc λ_ m4=>?_)));obtain ⟨⟨vl,vc,vw,ws,G,A,a1,a0,e7⟩,hs,b2⟩:=id I;obtain ⟨al,cl,rfl⟩:=A.sl;obtain ⟨gl,rfl⟩:=A.some_ b9;have c5:=I;obtain ⟨⟨bS,bR,S⟩,T⟩ : ∃ g,L[n]?=some g:=⟨_,List.getElem?_eq_getElem q4⟩;refine zS λ_ l2=>zm rfl (zP rfl (zf rfl ?_));refine WL.ev (Ev.load (v:=.slice (some ⟨gl,0,none⟩) L.length cl) rfl rfl (G.at_ rfl)) rfl ?_;refine zm rfl ?_;refine WL.ev (Ev.indexAddr rfl rfl oO oO) rfl ?_;refine WL.ev (Ev.avq (cs:=[.pointer (some ⟨bS,0,none⟩),.pointer (some ⟨bR,0,none⟩)]) rfl rfl rfl (A.pair T)) rfl ?_;refine WL.iQ (l:=[.pointer none,.pointer none]) rfl rfl λi2 t4 i a3 b8=>?_;have c4:=Nat.le_trans f.size b8;have f:=f.ta a3;have I:=I.q5 a3;have j:=j.q5 a3;have n7:=zdd h.lt b8;have h:=h.k0 a3;refine zss rfl rfl (by intro q hq;simp only[List.mem_cons,List.not_mem_nil,or_false] at hq;rcases hq with rfl|rfl<;>rfl) i rfl λt2 d5 a9=>?_;(try simp only[qt] at d5);have f:=f.step a9 (λy J=>.inr (by rw[List.mem_singleton.1 J];exact c4));have j:=j.q8 i a9 (by intro q hq;simp only[List.mem_cons,List.not_mem_nil,or_false] at hq;rcases hq with rfl|rfl<;>rfl);have h:=h.kq a9;have I:=c5.q5 (a3.step a9 (λy J=>.inr (by rw[List.mem_singleton.1 J];exact b8)));have i:=d5;refine zz (l2 ?_);obtain ⟨a,d,hG,c1,o2,o0⟩:=I.s.sh _ (List.mem_of_getElem? T);dsimp only at a d hG c1 o2 o0;refine m4 (zc λ_ u2=>Sr λ_ m3=>zf rfl (zl h rfl rfl (zz (m3 (CW.block (Sr λ_ m2=>zq rfl rfl (za rfl (zz (m2 ?_)))))))));refine zy rfl ?_ ?_<;>intro r6<;>try simp only[qs] at r6
  · refine zc λ_ m1=>?_
    refine CW.bkj [bS,bR] 12 rfl cJ λu6 l0 o p=>?_;have f:=f.ta p;have h:=h.k0 p;have i:=i.k0 p;have j:=j.q5 p;have I:=I.q5 p;have a:=a.q5 p;have d:=d.q5 p;have b0:=h;have F:=i;have e9:b3∉[bS,bR]:=bzq h a d;have V:i2∉[bS,bR]:=bzq i a d;have f4 : ∀ y∈[bS,bR],y∈([]:List Nat)\/w0.heap.size<=y:=λy J=>.inr (by simp only[List.mem_cons,List.not_mem_nil,or_false] at J;rcases J with rfl|rfl<;>omega);have O:=I.hole n;refine wh 0 rfl o (eF rfl) (wh 1 rfl o (λ_ x=>Ev.load (v:=.pointer (some ⟨bS,0,none⟩)) rfl rfl ((F.gZ x V).at_ rfl)) (wh 2 rfl o (eF rfl) (wh 3 rfl o (λ_ x=>Ev.load (v:=.float .f64 ox) rfl rfl ((b0.gZ x e9).at_ rfl)) (wh 5 rfl o (eF rfl) (wh 6 rfl o (λ_ x=>Ev.load (v:=.pointer (some ⟨bR,0,none⟩)) rfl rfl ((F.gZ x V).at_ rfl)) (wh 7 rfl o (eF rfl) (wh 8 rfl o (λ_ x=>Ev.load (v:=.float .f64 ox) rfl rfl ((b0.gZ x e9).at_ rfl)) ?_)))))));refine WH.k6 4 rfl oR hasF22 rfl rfl (cfx bS S ox _ a hG.wf e8 (f0.q5 f)) λv w6 Z=>?_;obtain ⟨e1,p3,rfl,b7,b5,k⟩:=b7q (n:=1) (one_al (ox)) Z;have o:=o.step k (λy J=>.inl (by rw[List.mem_singleton.1 J];simp));have O:=O.keepP T a k;have d:=d.other a k (d.neT a oD);have j:=j.nX a k;have h:=h.nX a k;have i:=i.nX a k;have f:=f.step k (λy J=>.inr (by rw[List.mem_singleton.1 J];omega));have a:=b5;refine ⟨o,?_⟩;refine WH.k6 9 rfl oR hasF30 rfl rfl (r21Add_spec bR S ox _ d hG.wf e8 hG.num (Gn.one e8).num) λv w7 Z=>?_;obtain ⟨e2,p2,rfl,d8,b4,k⟩:=b7q (n:=1) (one_al (ox)) Z;obtain ⟨rfl,rfl⟩:=b7.eq d8;have o:=o.step k (λy J=>.inl (by rw[List.mem_singleton.1 J];simp));have O:=O.keepR T d k;have a:=a.other d k (a.neT d oD);have j:=j.nX d k;have h:=h.nX d k;have i:=i.nX d k;have f:=f.step k (λy J=>.inr (by rw[List.mem_singleton.1 J];omega));have d:=b4;obtain ⟨d6,d7⟩:=b7.gn hG (Gn.one e8) c1;refine ⟨o,?_⟩;refine wh 10 rfl o (λ_ _=>Ev.eql rfl rfl) ?_;rw[decide_eq_true (rfl)];refine wh 11 rfl o (eA rfl) ?_;refine WH.done oR (l0 _ _ _ ?_);refine m1 ?_;refine zr (zr1 rfl rfl ?_);exact ⟨rfl,⟨_,_,O.close T a d d6 d7,.inr ⟨by rw[List.length_set],Nat.le_succ _,a2⟩⟩,f,j⟩
  refine Sr λ_ m0=>zq rfl rfl (za rfl (zz (m0 ?_)));refine zy rfl ?_ ?_<;>intro o6<;>try simp only[qs] at o6
  · exfalso;have:=o6;omega
  refine Sr λ_ l9=>zq rfl rfl (za rfl (zz (l9 ?_)));refine zy rfl ?_ ?_<;>intro r5<;>try simp only[qs] at r5
  · refine zc λ_ f2=>?_
    refine CW.bZ 12 rfl cJ λu5 f1 o p=>?_;have f:=f.ta p;have h:=h.k0 p;have i:=i.k0 p;have j:=j.q5 p;have I:=I.q5 p;have a:=a.q5 p;have d:=d.q5 p;have b0:=h;have F:=i;obtain ⟨⟨vl,vc,vw,ws,G,A,a1,a0,e7⟩,hs,b2⟩:=id I;obtain ⟨al,cl,rfl⟩:=A.sl;obtain ⟨gl,rfl⟩:=A.some_ b9;have c5:=I;obtain ⟨m,hm⟩ : ∃ m,m=atP ow L.length:=⟨_,rfl⟩;have q6:m<L.length:=by rw[hm];exact atP_lt _ b9
    obtain ⟨⟨o9,p1,S2⟩,c2⟩ : ∃ g,L[m]?=some g:=⟨_,List.getElem?_eq_getElem q6⟩;refine wh 0 rfl o (eM rfl) (wh 1 rfl o (eP rfl) (wh 2 rfl o (eF rfl) (wh 3 rfl o (λ_ x=>Ev.load (v:=.slice (some ⟨gl,0,none⟩) L.length cl) rfl rfl ((G.q5 x).at_ rfl)) (wh 4 rfl o (eM rfl) (wh 5 rfl o (eF rfl) (wh 6 rfl o (λ_ x=>Ev.load rfl rfl ((b0.q5 x).at_ rfl)) ?_))))));refine WH.c2j 7 10 oR ?_ ?_
    · refine ahj.call 7 rfl hasF29 rfl rfl (at_spec lo bp L C st ow _ (c5.q5 o) n6 b9 oO) λv w8 Z=>?_;obtain ⟨rfl,k⟩:=Z;rw[<- hm];have f:=f.ta k;have h:=h.k0 k;have i:=i.k0 k;have j:=j.q5 k;have a:=a.q5 k;have d:=d.q5 k;have o:=o.trans k;refine ⟨o,?_⟩;refine wh 8 rfl o (λ_ _=>Ev.indexAddr rfl rfl oO oO) (wh 9 rfl o (λ_ x=>Ev.avq (cs:=[.pointer (some ⟨o9,0,none⟩),.pointer (some ⟨p1,0,none⟩)]) rfl rfl rfl ((A.q5 x).pair c2)) ?_);refine WH.vZ (l:=[.pointer none,.pointer none]) 10 rfl oR o rfl rfl λi1 i8 t B H g9=>?_;have a8:=Nat.le_trans o.size H;have o:=g9;have c3:=Nat.le_trans f.size H;have f:=f.ta B;have j:=j.q5 B;have a:=a.q5 B;have d:=d.q5 B;have c9:=zdd h.lt H;have h:=h.k0 B;have c0:=zdd i.lt H;have i:=i.k0 B;refine WH.sQ 11 rfl oR o a8 rfl rfl rfl ao t oS rfl λv5 a4 a7 o=>?_;(try simp only[qt] at a4);have f:=f.s1 a7;have h:=h.kq a7;have i:=i.kq a7;have j:=j.q8 t a7 an;have a:=a.q8 t a7 an;have d:=d.q8 t a7 an;have t:=a4;refine WH.done oR (f1 _ _ _ ?_);have I:=c5.q5 o;refine f2 (zc λ_ l8=>?_);refine CW.bkj [bS,bR] 12 rfl cJ λu4 k5 o p=>?_;have f:=f.ta p;have h:=h.k0 p;have i:=i.k0 p;have t:=t.k0 p;have j:=j.q5 p;have a:=a.q5 p;have d:=d.q5 p;have F:=i;have R:=t;have I:=I.q5 p;have O:=I.hole n;have e9:b3∉[bS,bR]:=bzq h a d;have V:i2∉[bS,bR]:=bzq i a d;have f4 : ∀ y∈[bS,bR],y∈([]:List Nat)\/w0.heap.size<=y:=λy J=>.inr (by simp only[List.mem_cons,List.not_mem_nil,or_false] at J;rcases J with rfl|rfl<;>omega);have b1:i1∉[bS,bR]:=bzq t a d;refine wh 0 rfl o (eF rfl) ?_;obtain f8:m=n:=by omega
      · subst f8;rw[T] at c2;cases c2;refine wh 1 rfl o (λ_ x=>Ev.load (v:=.pointer (some ⟨bS,0,none⟩)) rfl rfl ((F.gZ x V).at_ rfl)) (wh 2 rfl o (eF rfl) (wh 3 rfl o (λ_ x=>Ev.load (v:=.pointer (some ⟨bS,0,none⟩)) rfl rfl ((R.gZ x b1).at_ rfl)) (wh 5 rfl o (eF rfl) (wh 6 rfl o (λ_ x=>Ev.load (v:=.pointer (some ⟨bR,0,none⟩)) rfl rfl ((F.gZ x V).at_ rfl)) (wh 7 rfl o (eF rfl) (wh 8 rfl o (λ_ x=>Ev.load (v:=.pointer (some ⟨bR,0,none⟩)) rfl rfl ((R.gZ x b1).at_ rfl)) ?_))))));refine WH.k6 4 rfl oR hasF31 rfl rfl (buj bS S _ a hG.wf (f0.q5 f)) λv w9 Z=>?_;obtain ⟨e1,p3,rfl,b7,b5,k⟩:=b7q rfl Z;have o:=o.step k (λy J=>.inl (by rw[List.mem_singleton.1 J];simp));have O:=O.keepP T a k;have d:=d.other a k (d.neT a oD);have j:=j.nX a k;have h:=h.nX a k;have i:=i.nX a k;have f:=f.step k (λy J=>.inr (by rw[List.mem_singleton.1 J];omega));have a:=b5;refine ⟨o,?_⟩;refine WH.k6 9 rfl oR hasF32 rfl rfl (a9j bR S _ d hG.wf hG.num) λv x3 Z=>?_;obtain ⟨e2,p2,rfl,d8,b4,k⟩:=b7q rfl Z;obtain ⟨rfl,rfl⟩:=b7.eq d8;have o:=o.step k (λy J=>.inl (by rw[List.mem_singleton.1 J];simp));have O:=O.keepR T d k;have a:=a.other d k (a.neT d oD);have j:=j.nX d k;have h:=h.nX d k;have i:=i.nX d k;have f:=f.step k (λy J=>.inr (by rw[List.mem_singleton.1 J];omega));have d:=b4;obtain ⟨d6,d7⟩:=b7.gn hG hG c1;refine ⟨o,?_⟩;refine wh 10 rfl o (λ_ _=>Ev.eql rfl rfl) ?_;rw[decide_eq_true (rfl)];refine wh 11 rfl o (eA rfl) ?_;refine WH.done oR (k5 _ _ _ ?_);refine l8 ?_;refine zr (zr1 rfl rfl ?_);exact ⟨rfl,⟨_,_,O.close T a d d6 d7,.inr ⟨by rw[List.length_set],Nat.le_succ _,a2⟩⟩,f,j⟩
    refine ahj.vZ (l:=[.pointer none,.pointer none]) 10 rfl o rfl rfl λi1 i8 t B H g9=>?_;have a8:=Nat.le_trans o.size H;have o:=g9;have c3:=Nat.le_trans f.size H;have f:=f.ta B;have j:=j.q5 B;have a:=a.q5 B;have d:=d.q5 B;have c9:=zdd h.lt H;have h:=h.k0 B;have c0:=zdd i.lt H;have i:=i.k0 B;refine WH.k6 7 rfl oR hasF29 rfl rfl (at_spec lo bp L C st ow _ (c5.q5 o) n6 b9 oO) λv x2 Z=>?_;obtain ⟨rfl,k⟩:=Z;rw[<- hm];have f:=f.ta k;have h:=h.k0 k;have i:=i.k0 k;have t:=t.k0 k;have j:=j.q5 k;have a:=a.q5 k;have d:=d.q5 k;have o:=o.trans k;refine ⟨o,?_⟩;refine wh 8 rfl o (λ_ _=>Ev.indexAddr rfl rfl oO oO) (wh 9 rfl o (λ_ x=>Ev.avq (cs:=[.pointer (some ⟨o9,0,none⟩),.pointer (some ⟨p1,0,none⟩)]) rfl rfl rfl ((A.q5 x).pair c2)) ?_);refine WH.sQ 11 rfl oR o a8 rfl rfl rfl ao t oS rfl λt3 a4 U o=>?_;(try simp only[qt] at a4);have f:=f.s1 U;have h:=h.kq U;have i:=i.kq U;have j:=j.q8 t U an;have a:=a.q8 t U an;have d:=d.q8 t U an;have t:=a4;refine WH.done oR (f1 _ _ _ ?_);have I:=c5.q5 o;refine f2 (zc λ_ l7=>?_);refine CW.bkj [bS,bR] 12 rfl cJ λu3 k4 o p=>?_;have f:=f.ta p;have h:=h.k0 p;have i:=i.k0 p;have t:=t.k0 p;have j:=j.q5 p;have a:=a.q5 p;have d:=d.q5 p;have F:=i;have R:=t;have I:=I.q5 p;have O:=I.hole n;have e9:b3∉[bS,bR]:=bzq h a d;have V:i2∉[bS,bR]:=bzq i a d;have f4 : ∀ y∈[bS,bR],y∈([]:List Nat)\/w0.heap.size<=y:=λy J=>.inr (by simp only[List.mem_cons,List.not_mem_nil,or_false] at J;rcases J with rfl|rfl<;>omega);have b1:i1∉[bS,bR]:=bzq t a d;refine wh 0 rfl o (eF rfl) ?_;obtain f8:m=n:=by omega
    · subst f8;rw[T] at c2;cases c2;refine wh 1 rfl o (λ_ x=>Ev.load (v:=.pointer (some ⟨bS,0,none⟩)) rfl rfl ((F.gZ x V).at_ rfl)) (wh 2 rfl o (eF rfl) (wh 3 rfl o (λ_ x=>Ev.load (v:=.pointer (some ⟨bS,0,none⟩)) rfl rfl ((R.gZ x b1).at_ rfl)) (wh 5 rfl o (eF rfl) (wh 6 rfl o (λ_ x=>Ev.load (v:=.pointer (some ⟨bR,0,none⟩)) rfl rfl ((F.gZ x V).at_ rfl)) (wh 7 rfl o (eF rfl) (wh 8 rfl o (λ_ x=>Ev.load (v:=.pointer (some ⟨bR,0,none⟩)) rfl rfl ((R.gZ x b1).at_ rfl)) ?_))))));refine WH.k6 4 rfl oR hasF31 rfl rfl (buj bS S _ a hG.wf (f0.q5 f)) λv w12 Z=>?_;obtain ⟨e1,p3,rfl,b7,b5,k⟩:=b7q rfl Z;have o:=o.step k (λy J=>.inl (by rw[List.mem_singleton.1 J];simp));have O:=O.keepP T a k;have d:=d.other a k (d.neT a oD);have j:=j.nX a k;have h:=h.nX a k;have i:=i.nX a k;have f:=f.step k (λy J=>.inr (by rw[List.mem_singleton.1 J];omega));have a:=b5;refine ⟨o,?_⟩;refine WH.k6 9 rfl oR hasF32 rfl rfl (a9j bR S _ d hG.wf hG.num) λv x1 Z=>?_;obtain ⟨e2,p2,rfl,d8,b4,k⟩:=b7q rfl Z;obtain ⟨rfl,rfl⟩:=b7.eq d8;have o:=o.step k (λy J=>.inl (by rw[List.mem_singleton.1 J];simp));have O:=O.keepR T d k;have a:=a.other d k (a.neT d oD);have j:=j.nX d k;have h:=h.nX d k;have i:=i.nX d k;have f:=f.step k (λy J=>.inr (by rw[List.mem_singleton.1 J];omega));have d:=b4;obtain ⟨d6,d7⟩:=b7.gn hG hG c1;refine ⟨o,?_⟩;refine wh 10 rfl o (λ_ _=>Ev.eql rfl rfl) ?_;rw[decide_eq_true (rfl)];refine wh 11 rfl o (eA rfl) ?_;refine WH.done oR (k4 _ _ _ ?_);refine l7 ?_;refine zr (zr1 rfl rfl ?_);exact ⟨rfl,⟨_,_,O.close T a d d6 d7,.inr ⟨by rw[List.length_set],Nat.le_succ _,a2⟩⟩,f,j⟩
  refine Sr λ_ l6=>zq rfl rfl (za rfl (zz (l6 ?_)));refine zy rfl ?_ ?_<;>intro o5<;>try simp only[qs] at o5
  · exfalso;have:=o5;omega
  refine Sr λ_ l5=>zq rfl rfl (za rfl (zz (l5 ?_)));refine zy rfl ?_ ?_<;>intro f9<;>try simp only[qs] at f9
  · exfalso;have:=f9;omega
  exfalso;have:=f9;omega
end
section
open Go Sx
namespace Sx
theorem c8x{P:Program}{d:Region.Mode}{b:Array Oper}{Q:Exit->Act->World->Prop}{S S':World->Prop}(c : ∀ w,S' w->S w): ∀ (fuel:Nat) (listed:Array Bool) (a:Act) (w:World),wpAnyH P d b Q S' fuel listed a w->wpAnyH P d b Q S fuel listed a w
  | 0,_,_,_,h=>h
  | fuel+1,_,_,_,h=>⟨h.1,λi hi=>wpOp_mono (λa' w' h'=>⟨c _ h'.1,c8x c fuel _ a' w' h'.2⟩) (h.2 i hi)⟩
theorem WH.narrow{P:Program}{c:Array Oper}{K:KK}{S S':World->Prop}{fuel:Nat}{b:Array Bool}{n:Nat}{D:List Deferred}{s:Sl}{w:World}(d : ∀ w,S' w->S w)(k:WH P c K S' fuel b n D s w):WH P c K S fuel b n D s w:=λa ha=>c8x d _ _ _ _ (k a ha)
end Sx
end
section
open Go Sx Wd Fl
theorem nf_nil{w:World}: NF w (.slice none 0 0) []:=⟨⟨none,0,rfl,Nat.le_refl _,RW.nil⟩,λx hx=>(by cases hx),by decide⟩
theorem by_nil{w:World}: BY w (.slice none 0 0) []:=⟨none,0,rfl,RW.nil,Nat.le_refl _,λad e=>(by cases e),λx hx=>(by cases hx),by decide⟩
theorem cpx(v:Value)(bs:List Nat)(ok oo ow om O M pn pi:Int)(ox:Nat)(z A:Value)(xx:Nat)(w:World)(R:GW w)(c8:BY w v bs)(D:z.oneCell'=true)(F:A.oneCell'=true)(e6:xx<18446744073709551616):Ret Tryz.prog 4 [v,.agg [.int .i64 ok,.int .i64 oo,.int .i64 ow,.float .f64 ox,z,.int .i64 om,.int .i64 O,.int .i64 M,.int .i64 pn,.int .i64 pi,A].toArray,.float .f64 xx] w λu w'=>u = .bool true/\Chg [] w w':=by
 obtain ⟨ab,cb,rfl,e7,h7,h8,hB,i0⟩:=id c8;have a:=crf w;refine zE3 Tryz.func4 rfl ?_;refine Sr λ_ e5=>?_;refine zBh rfl rfl rfl a λb4 g5 b g3 g2 c5 a=>?_;refine za rfl (zz (e5 (Sr λ_ e4=>?_)));refine WL.call hasF7 rfl rfl (awake_spec _ (R.q5 a)) λv w1 r=>?_;obtain ⟨rfl,hC⟩:=r;have a:=a.ta hC;have b:=b.k0 hC;refine za rfl (zz (e4 ?_));refine Sq λ_ e3 _ e0=>?_;refine WL.ev (Ev.build (vs:=_) (cs:=[_,_,_]) rfl rfl) rfl ?_;refine zBh rfl rfl rfl a λh f6 c9 Z Y y a=>?_;have c4:=zdd b.lt Y;have b:=b.k0 Z;refine za rfl ?_;refine WL.nil (e0 _ _ _ ?_);have f:PlM w.heap.size _ h [] [] True:=⟨⟨_,_,_,_,c9,PQ.nil,PQ.nil,PQ.nil,λ_=>rfl⟩,⟨λg R=>(by cases R),.nil,λx hx=>(by cases hx),.nil⟩,y⟩;refine e3 _ _ _ ?_;refine Sr λ_ e2=>zm rfl (zm rfl ?_);refine WL.ev (Ev.build (vs:=_) (cs:=[_,_,_,_,_,_,_,_,_,_,_]) rfl rfl) rfl ?_;refine WL.call hasF8 rfl rfl (cex _ h [] [] True 7 0 0 0 0 0 0 0 0 (.slice none 0 0) (.slice ab bs.length cb) [] bs w _ R f a (Nat.le_refl _) oD oD oD (.inr (.inl rfl)) nf_nil c8 oD oD oD) λv w2 r=>?_;obtain ⟨rfl,⟨L1,t,d0,G⟩,c7,e9⟩:=r;have b:=e9 _ _ _ b oD;have a:=c7;rcases G with ⟨rfl,-,hh⟩|⟨-,-,hn⟩
 rotate_left
 · exact absurd (.inr rfl) hn
 refine za rfl (zz (e2 (zc λ_ e1=>Sr λ_ c1=>zm rfl (zT rfl (zm rfl (zw rfl (zm rfl (zw rfl (zT rfl (ze rfl rfl (zz (c1 ?_))))))))))));refine CW.oX rfl ?_;refine zkk (e1 (zc λ_ c0=>Sr λ_ V=>?_));rcases hh with ⟨rfl,-⟩|⟨i,j,S,rfl,-,c6⟩
 ·obtain ⟨⟨vl,vc,vw,ws,k,c,I,H,B⟩,hs,p⟩:=id d0;obtain ⟨al,J,rfl⟩:=c.sl;refine zm rfl (zP rfl (zf rfl ?_));refine WL.ev (Ev.load (v:=.slice al 0 J) rfl rfl (k.at_ rfl)) rfl ?_;refine zn rfl (zq rfl rfl ?_);rw[show decide (((0:Nat):Int)=0)=true from rfl];refine zz (V ?_);refine CW.nZ rfl ?_;refine Sr λ_ b9=>za rfl (zz (b9 ?_));refine zr (zr1 rfl rfl ?_);exact ⟨rfl,a⟩
 have f:PlM w.heap.size _ h [(i,j,S)] [] True:=d0;obtain ⟨⟨vl,vc,vw,ws,k,c,I,H,B⟩,hs,p⟩:=id f;obtain ⟨al,J,rfl⟩:=c.sl;obtain ⟨U,rfl⟩:=c.some_ (show 0<[(i,j,S)].length from Nat.zero_lt_one);refine zm rfl (zP rfl (zf rfl ?_));refine WL.ev (Ev.load (v:=.slice (some ⟨U,0,none⟩) 1 J) rfl rfl (k.at_ rfl)) rfl ?_;refine zn rfl (zq rfl rfl ?_);rw[decide_eq_false oD];refine zz (V ?_);refine CW.oX rfl ?_;refine zkk (c0 (zc λ_ b8=>?_));refine CW.bZ 13 rfl cJ λg1 b0 q d=>?_;have a:=a.ta d;have b:=b.k0 d;have f:=f.q5 d;have a0:=a;obtain ⟨⟨vl,vc,vw,ws,k,c,I,H,B⟩,hs,p⟩:=id f;obtain ⟨al,J,rfl⟩:=c.sl;obtain ⟨U,rfl⟩:=c.some_ (show 0<[(i,j,S)].length from Nat.zero_lt_one);obtain ⟨f3,h9,hG,h5,-⟩:=f.s.sh _ (List.mem_singleton_self _);refine wh 0 rfl q (eM rfl) (wh 1 rfl q (eP rfl) (wh 2 rfl q (eF rfl) (wh 3 rfl q (λ_ m=>Ev.load (v:=.slice (some ⟨U,0,none⟩) 1 J) rfl rfl ((k.q5 m).at_ rfl)) (wh 4 rfl q (λ_ _=>Ev.indexAddr rfl rfl oD oD) (wh 5 rfl q (eF rfl) (wh 6 rfl q (λ_ m=>Ev.load (v:=.pointer (some ⟨i,0,none⟩)) rfl rfl ((c.q5 m).pair (n:=0) rfl 0 _ rfl)) (wh 9 rfl q (eM rfl) (wh 10 rfl q (λ_ m=>Ev.toStr (l:=bs) rfl rfl (e7.q5 (a0.trans m))) ?_))))))));refine WH.k6 7 rfl oR hasF11 rfl rfl (atj i S _ f3 hG.wf hG.ex) λv w3 r=>?_;obtain ⟨f0,hC⟩:=r;obtain ⟨aA,cA,rfl,f1,c3,-⟩:=f0.bwq;have a:=a.ta hC;have b:=b.k0 hC;have f:=f.q5 hC;have q:=q.trans hC;refine ⟨q,?_⟩;refine WH.narrow (S':=Chg [] w3) (λw' m=>q.trans m) ?_;have q:Chg [] w3 w3:=Chg.refl _ _;refine wh 8 rfl q (λ_ m=>Ev.toStr (l:=adx S) rfl rfl (c3.q5 m)) (wh 11 rfl q (λ_ _=>Ev.eqlStr rfl rfl) ?_);rw[decide_eq_true (congrArg bA (encS_decS hB (c6 rfl)))];refine wh 12 rfl q (eA rfl) ?_;refine WH.done oR (b0 _ _ _ ?_);refine b8 (zc λ_ b7=>?_);refine CW.dfj 8 cJ oR λg0 a9 d=>?_;have a:=a.ta d;have b:=b.k0 d;have f:=f.q5 d;obtain ⟨⟨vl,vc,vw,ws,k,c,I,H,B⟩,hs,p⟩:=id f;obtain ⟨al,J,rfl⟩:=c.sl;obtain ⟨U,rfl⟩:=c.some_ (show 0<[(i,j,S)].length from Nat.zero_lt_one);refine ym rfl (ym rfl (yP rfl (yf rfl ?_)));refine WS.ev (Ev.load (v:=.slice (some ⟨U,0,none⟩) 1 J) rfl rfl (k.at_ rfl)) rfl ?_;refine WS.ev (Ev.indexAddr rfl rfl oD oD) rfl ?_;refine WS.ev (Ev.avq (cs:=[.pointer (some ⟨i,0,none⟩),.pointer (some ⟨j,0,none⟩)]) rfl rfl rfl (c.pair (n:=0) rfl)) rfl ?_;refine WS.ev (Ev.oQ rfl rfl b rfl) rfl ?_;refine WS.nil ?_;refine WL.call hasF9 rfl rfl (chx _ h [(i,j,S)] [] True i j S ok oo ow om O M pn pi ox z A w _ R f (List.mem_singleton_self _) a (Nat.le_refl _) (by first|omega|decide) D F) λv w4 r=>?_;obtain ⟨rfl,⟨v1,o⟩,e,Q⟩:=r;have b:=Q.kq _ _ _ b oD;have a:=e;obtain ⟨C,f,T⟩ : ∃ t,PlM w.heap.size w4 h [(i,j,S)] t True/\t.length<=1:=⟨_,o,by simp only[List.length_append,List.length_cons,List.length_nil];omega⟩;refine za rfl ?_;refine WL.nil (a9 _ _ _ (b7 ?_));refine Sr λ_ b6=>zm rfl (zm rfl ?_);refine WL.ev (Ev.build (vs:=_) (cs:=[_,_,_,_,_,_,_,_,_,_,_]) rfl rfl) rfl ?_;refine WL.call hasF8 rfl rfl (cex _ h [(i,j,S)] C True 2 0 0 0 0 0 0 0 xx (.slice none 0 0) (.slice none 0 0) [] [] w _ R f a (Nat.le_refl _) oO (Nat.le_refl 1) oD (.inr (.inr Nat.zero_lt_one)) nf_nil by_nil oD oD e6) λv w5 r=>?_;obtain ⟨rfl,⟨L',C',o,G⟩,e,Q⟩:=r;have b:=Q _ _ _ b oD;have a:=e;rcases G with ⟨-,hn,-⟩|⟨X,f2,-⟩
 · exfalso;omega
 obtain ⟨⟨i,j,S⟩,rfl⟩ : ∃ g,L'=[g]:=List.length_eq_one_iff.1 X;obtain ⟨C,f,T⟩ : ∃ t,PlM w.heap.size w5 h [(i,j,S)] t True/\t.length<=2:=⟨C',o,by omega⟩;refine za rfl (zz (b6 (zc λ_ b5=>?_)));refine CW.dfj 8 cJ oR λf9 a8 d=>?_;have a:=a.ta d;have b:=b.k0 d;have f:=f.q5 d;obtain ⟨⟨vl,vc,vw,ws,k,c,I,H,B⟩,hs,p⟩:=id f;obtain ⟨al,J,rfl⟩:=c.sl;obtain ⟨U,rfl⟩:=c.some_ (show 0<[(i,j,S)].length from Nat.zero_lt_one);refine ym rfl (ym rfl (yP rfl (yf rfl ?_)));refine WS.ev (Ev.load (v:=.slice (some ⟨U,0,none⟩) 1 J) rfl rfl (k.at_ rfl)) rfl ?_;refine WS.ev (Ev.indexAddr rfl rfl oD oD) rfl ?_;refine WS.ev (Ev.avq (cs:=[.pointer (some ⟨i,0,none⟩),.pointer (some ⟨j,0,none⟩)]) rfl rfl rfl (c.pair (n:=0) rfl)) rfl ?_;refine WS.ev (Ev.oQ rfl rfl b rfl) rfl ?_;refine WS.nil ?_;refine WL.call hasF9 rfl rfl (chx _ h [(i,j,S)] C True i j S ok oo ow om O M pn pi ox z A w _ R f (List.mem_singleton_self _) a (Nat.le_refl _) (by first|omega|decide) D F) λv w6 r=>?_;obtain ⟨rfl,⟨v1,o⟩,e,Q⟩:=r;have b:=Q.kq _ _ _ b oD;have a:=e;obtain ⟨C,f,T⟩ : ∃ t,PlM w.heap.size w6 h [(i,j,S)] t True/\t.length<=3:=⟨_,o,by simp only[List.length_append,List.length_cons,List.length_nil];omega⟩;refine za rfl ?_;refine WL.nil (a8 _ _ _ (b5 ?_));refine Sr λ_ b3=>zm rfl ?_;refine WL.ev (Ev.build (vs:=_) (cs:=[_,_,_,_,_,_,_,_,_,_,_]) rfl rfl) rfl ?_;refine WL.call hasF8 rfl rfl (cex _ h [(i,j,S)] C True 4 0 0 0 0 0 0 0 0 (.slice none 0 0) (.slice none 0 0) [] [] w _ R f a (Nat.le_refl _) oO (Nat.le_refl 1) oD (.inr (.inr Nat.zero_lt_one)) nf_nil by_nil oD oD oD) λv w7 r=>?_;obtain ⟨rfl,⟨L',C',o,G⟩,e,Q⟩:=r;have b:=Q _ _ _ b oD;have a:=e;rcases G with ⟨-,hn,-⟩|⟨X,f2,-⟩
 · exfalso;omega
 obtain ⟨⟨i,j,S⟩,rfl⟩ : ∃ g,L'=[g]:=List.length_eq_one_iff.1 X;obtain ⟨C,f,T⟩ : ∃ t,PlM w.heap.size w7 h [(i,j,S)] t True/\t.length<=4:=⟨C',o,by omega⟩;refine za rfl (zz (b3 (zc λ_ b2=>?_)));refine CW.dfj 8 cJ oR λf8 a7 d=>?_;have a:=a.ta d;have b:=b.k0 d;have f:=f.q5 d;obtain ⟨⟨vl,vc,vw,ws,k,c,I,H,B⟩,hs,p⟩:=id f;obtain ⟨al,J,rfl⟩:=c.sl;obtain ⟨U,rfl⟩:=c.some_ (show 0<[(i,j,S)].length from Nat.zero_lt_one);refine ym rfl (ym rfl (yP rfl (yf rfl ?_)));refine WS.ev (Ev.load (v:=.slice (some ⟨U,0,none⟩) 1 J) rfl rfl (k.at_ rfl)) rfl ?_;refine WS.ev (Ev.indexAddr rfl rfl oD oD) rfl ?_;refine WS.ev (Ev.avq (cs:=[.pointer (some ⟨i,0,none⟩),.pointer (some ⟨j,0,none⟩)]) rfl rfl rfl (c.pair (n:=0) rfl)) rfl ?_;refine WS.ev (Ev.oQ rfl rfl b rfl) rfl ?_;refine WS.nil ?_;refine WL.call hasF9 rfl rfl (chx _ h [(i,j,S)] C True i j S ok oo ow om O M pn pi ox z A w _ R f (List.mem_singleton_self _) a (Nat.le_refl _) (by first|omega|decide) D F) λv w8 r=>?_;obtain ⟨rfl,⟨v1,o⟩,e,Q⟩:=r;have b:=Q.kq _ _ _ b oD;have a:=e;obtain ⟨C,f,T⟩ : ∃ t,PlM w.heap.size w8 h [(i,j,S)] t True/\t.length<=5:=⟨_,o,by simp only[List.length_append,List.length_cons,List.length_nil];omega⟩;refine za rfl ?_;refine WL.nil (a7 _ _ _ (b2 ?_));refine Sr λ_ b1=>zm rfl (zm rfl (zw rfl (zm rfl (zt rfl rfl (zm rfl (zw rfl (zm rfl (zt rfl rfl (zm rfl (zw rfl (zm rfl (zt rfl rfl (zm rfl (zw rfl (zm rfl (zt rfl rfl (zm rfl (zw rfl (zm rfl (zt rfl rfl (za rfl (zz (b1 ?_)))))))))))))))))))))));refine zr (zr1 rfl rfl ?_);exact ⟨rfl,a⟩
end
section
open Go Sx Wd
open Go.ChangeShapes Go.WideShapes Go.ChangeAt Go.WideMaps Go.WideElems Go.RowKit
end
section
open Go Sx Wd Fl
end
section
open Go Sx Wd
open Go.ChangeShapes Go.WideShapes Go.ChangeAt Go.WideMaps Go.WideElems Go.RowKit
open Go.ChangeShapes Go.WideShapes Go.ChangeAt Go.WideMaps Go.WideElems Go.RowKit
theorem trod_fld{H:Type}{enc:TypeId×Value->H}{P:Program}{w:World}{c:Nat}{a:Nat->Bool}{b:Bool}{t:TypeId}{d:Array Field}{fuel:Nat}{cs:List Value}{x:DataW H×List MemPlace}(k:P.underlying t=some (.struct d))(h:DataW.trod enc P w c a b fuel t cs=some x):
    ∃ n,∀ (i:Nat) (f:Field),d[i]?=some f->∃ y,DataW.trod enc P w c a b n f.type ((cs.drop f.offset).take (P.cellsOf f.type))=some y:=by
  obtain ⟨o,n,_,rfl,p,e,m⟩:=DataW.trod_struct k h
  refine ⟨n,λi f g=>?_⟩
  have j:=m i f g
  have l:i<d.size:=(Array.getElem?_eq_some_iff.1 g).1
  rw[List.getElem?_eq_getElem oO] at j
  exact ⟨_,j⟩
theorem dsj{H:Type}{enc:TypeId×Value->H}{P:Program}{w:World}{f:Nat}{b:Nat->Bool}{d:Bool}{n:Nat}{t e:TypeId}{v:Value}{x:DataW H×List MemPlace}(g:P.underlying t=some (.slice e))(h:DataW.trod enc P w f b d n t [v]=some x):v.oneCell'=true:=by
  rcases DataW.trod_slice g h with ⟨c,_⟩|⟨a,len,i,_,_,_,_,c,_⟩
  · cases c;rfl
  · cases c;rfl
theorem open_op1{H:Type}{enc:TypeId×Value->H}{w:World}{p b0:Nat}{m:Nat->Bool}{o:Bool}{v:Value}{d:DataW H}{ps:List MemPlace}(q:Value.okWide Tryz.prog w .any b0 37 v)(h:DataW.Trod enc Tryz.prog w p m o 37 v d ps):
    ∃ (ok oo ow om ole onn pn pi:Int) (ox:Nat) (vol vob:Value),v = .agg [.int .i64 ok,.int .i64 oo,.int .i64 ow,.float .f64 ox,vol,.int .i64 om,.int .i64 ole,.int .i64 onn,.int .i64 pn,.int .i64 pi,vob].toArray/\vol.oneCell'=true/\vob.oneCell'=true:=by
  obtain ⟨O,hf⟩:=h
  have J:=Tryz.underlying37
  simp only[Value.okWide,J] at q
  obtain ⟨cs,rfl,r,_⟩:=q
  have hc:Tryz.prog.cellsOf 37=11:=by kernel_rfl
  rw[hc] at r
  have Q:Tryz.prog.cellsOf 3=1:=by kernel_rfl
  have cf:Tryz.prog.cellsOf 31=1:=by kernel_rfl
  have cl:Tryz.prog.cellsOf 32=1:=by kernel_rfl
  have cb:Tryz.prog.cellsOf 35=1:=by kernel_rfl
  have cp:Tryz.prog.cellsOf 34=2:=by kernel_rfl
  obtain ⟨n,hF⟩:=trod_fld J hf
  obtain ⟨y0,G⟩:=hF 0 ⟨"Kind",3,0,false,"","",0⟩ rfl
  obtain ⟨y1,F⟩:=hF 1 ⟨"On",3,1,false,"","",8⟩ rfl
  obtain ⟨y2,D⟩:=hF 2 ⟨"With",3,2,false,"","",16⟩ rfl
  obtain ⟨y3,C⟩:=hF 3 ⟨"X",31,3,false,"","",24⟩ rfl
  obtain ⟨y4,B⟩:=hF 4 ⟨"L",32,4,false,"","",32⟩ rfl
  obtain ⟨y5,A⟩:=hF 5 ⟨"Mode",3,5,false,"","",56⟩ rfl
  obtain ⟨y6,z⟩:=hF 6 ⟨"Less",3,6,false,"","",64⟩ rfl
  obtain ⟨y7,y⟩:=hF 7 ⟨"N",3,7,false,"","",72⟩ rfl
  obtain ⟨y8,x⟩:=hF 8 ⟨"P",34,8,false,"","",80⟩ rfl
  obtain ⟨y9,t⟩:=hF 9 ⟨"B",35,10,false,"","",96⟩ rfl
  obtain ⟨l⟩:=cs
  match l,r with
  | [a,b,c,d,e,f,g,h,i,j,k],_=>
    dsimp only[Value.cells] at G F D C B A z y x t
    rw[Q] at G F D A z y
    rw[cf] at C
    rw[cl] at B
    rw[cp] at x
    rw[cb] at t
    obtain ⟨Z,rfl,_⟩:=a2j Tryz.underlying3 (show DataW.trod enc Tryz.prog w p m o n 3 [a]=some y0 from by simpa using G)
    obtain ⟨Y,rfl,_⟩:=a2j Tryz.underlying3 (show DataW.trod enc Tryz.prog w p m o n 3 [b]=some y1 from by simpa using F)
    obtain ⟨X,rfl,_⟩:=a2j Tryz.underlying3 (show DataW.trod enc Tryz.prog w p m o n 3 [c]=some y2 from by simpa using D)
    obtain ⟨V,rfl,_⟩:=dqx Tryz.underlying31 (show DataW.trod enc Tryz.prog w p m o n 31 [d]=some y3 from by simpa using C)
    have o4:=dsj Tryz.underlying32 (show DataW.trod enc Tryz.prog w p m o n 32 [e]=some y4 from by simpa using B)
    obtain ⟨U,rfl,_⟩:=a2j Tryz.underlying3 (show DataW.trod enc Tryz.prog w p m o n 3 [f]=some y5 from by simpa using A)
    obtain ⟨T,rfl,_⟩:=a2j Tryz.underlying3 (show DataW.trod enc Tryz.prog w p m o n 3 [g]=some y6 from by simpa using z)
    obtain ⟨R,rfl,_⟩:=a2j Tryz.underlying3 (show DataW.trod enc Tryz.prog w p m o n 3 [h]=some y7 from by simpa using y)
    have o9:=dsj Tryz.underlying35 (show DataW.trod enc Tryz.prog w p m o n 35 [k]=some y9 from by simpa using t)
    have u:DataW.trod enc Tryz.prog w p m o n 34 [i,j]=some y8:=by simpa using x
    obtain ⟨I,M⟩:=trod_fld Tryz.underlying34 u
    obtain ⟨x0,p0⟩:=M 0 ⟨"NaN",3,0,false,"","",0⟩ rfl
    obtain ⟨x1,s⟩:=M 1 ⟨"Inf",3,1,false,"","",8⟩ rfl
    dsimp only at p0 s
    rw[Q] at p0 s
    obtain ⟨w0,rfl,_⟩:=a2j Tryz.underlying3 (show DataW.trod enc Tryz.prog w p m o I 3 [i]=some x0 from by simpa using p0)
    obtain ⟨w1,rfl,_⟩:=a2j Tryz.underlying3 (show DataW.trod enc Tryz.prog w p m o I 3 [j]=some x1 from by simpa using s)
    exact ⟨Z,Y,X,U,T,R,w0,w1,V,e,k,rfl,o4,o9⟩
end
section
open Go
def jf1(P:Program)(f:FuncId)(fn:Func)(s:ChangeSpec)(c:OpenClaim):Bool:=c.wf (OpenSpec.ofChange s)
def jf2(P:Program)(f:FuncId)(fn:Func)(s:ChangeSpec)(c:OpenClaim):Bool:=laidOutB P
def jf3(P:Program)(f:FuncId)(fn:Func)(s:ChangeSpec)(c:OpenClaim):Bool:=mapsRowed P
def jf4(P:Program)(f:FuncId)(fn:Func)(s:ChangeSpec)(c:OpenClaim):Bool:=fn.params.all (P.readableRec ·)
def jf5(P:Program)(f:FuncId)(fn:Func)(s:ChangeSpec)(c:OpenClaim):Bool:=namedTie P c.named s.vars
def jf6(P:Program)(f:FuncId)(fn:Func)(s:ChangeSpec)(c:OpenClaim):Bool:=(c.stops==[])
def jf7(P:Program)(f:FuncId)(fn:Func)(s:ChangeSpec)(c:OpenClaim):Bool:=(P.stops==[])
def jf8(P:Program)(f:FuncId)(fn:Func)(s:ChangeSpec)(c:OpenClaim):Bool:=(c.knobs==[])
def jf9(P:Program)(f:FuncId)(fn:Func)(s:ChangeSpec)(c:OpenClaim):Bool:=(P.stopKnobs==[])
def jf10(P:Program)(f:FuncId)(fn:Func)(s:ChangeSpec)(c:OpenClaim):Bool:=(c.inPlace==P.inPlace f)
def jf11(P:Program)(f:FuncId)(fn:Func)(s:ChangeSpec)(c:OpenClaim):Bool:=(c.unfollowed==P.unfollowed f)
def jf12(P:Program)(f:FuncId)(fn:Func)(s:ChangeSpec)(c:OpenClaim):Bool:=(c.recurses==P.recurses f)
def jf13(P:Program)(f:FuncId)(fn:Func)(s:ChangeSpec)(c:OpenClaim):Bool:=(c.named==P.varsNamed f)
def jf14(P:Program)(f:FuncId)(fn:Func)(s:ChangeSpec)(c:OpenClaim):Bool:=(c.maps==(fn.params.toList++s.plain.varTypes P).any (P.mapsRec ·))
def jf15(P:Program)(f:FuncId)(fn:Func)(s:ChangeSpec)(c:OpenClaim):Bool:=(c.ifaces==(fn.params.toList++s.plain.varTypes P).any (P.ifacesRec ·))
def jf16(P:Program)(f:FuncId)(fn:Func)(s:ChangeSpec)(c:OpenClaim):Bool:=(c.mapsOut==P.mapsAmong fn.resultTypes.toList)
def jf17(P:Program)(f:FuncId)(fn:Func)(s:ChangeSpec)(c:OpenClaim):Bool:=(c.loops==(fn.params.toList++s.plain.varTypes P).any (P.loopsFrom ·))
def jf18(P:Program)(f:FuncId)(fn:Func)(s:ChangeSpec)(c:OpenClaim):Bool:=(c.wideKeys==(fn.params.toList++s.plain.varTypes P++fn.resultTypes.toList).any (P.wideKeysFrom ·))
def jf19(P:Program)(f:FuncId)(fn:Func)(s:ChangeSpec)(c:OpenClaim):Bool:=s.vars.all (P.varReadable ·)
def jf20(P:Program)(f:FuncId)(fn:Func)(s:ChangeSpec)(c:OpenClaim):Bool:=fn.resultTypes.all (λt=>P.readableRec t&&decide (t<P.types.size))
def jf21(P:Program)(f:FuncId)(fn:Func)(s:ChangeSpec)(c:OpenClaim):Bool:=(c.ifacesOut==fn.resultTypes.toList.any (P.ifacesRec ·))
def jf22(P:Program)(f:FuncId)(fn:Func)(s:ChangeSpec)(c:OpenClaim):Bool:=(c.loopsOut==fn.resultTypes.toList.any (P.loopsFrom ·))
def jf23(P:Program)(f:FuncId)(fn:Func)(s:ChangeSpec)(c:OpenClaim):Bool:=(c.plainKeys==P.plainKeys)
def jf24(P:Program)(f:FuncId)(fn:Func)(s:ChangeSpec)(c:OpenClaim):Bool:=c.shortTexts.isNone
def jf25(P:Program)(f:FuncId)(fn:Func)(s:ChangeSpec)(c:OpenClaim):Bool:=P.stopsHeard
def jf26(P:Program)(f:FuncId)(fn:Func)(s:ChangeSpec)(c:OpenClaim):Bool:=P.mayEnter
def jf27(P:Program)(f:FuncId)(fn:Func)(s:ChangeSpec)(c:OpenClaim):Bool:=(c.lifted==P.liftsFinal)
def jf28(P:Program)(f:FuncId)(fn:Func)(s:ChangeSpec)(c:OpenClaim):Bool:=(P.make==some c.make)
def jf29(P:Program)(f:FuncId)(fn:Func)(s:ChangeSpec)(c:OpenClaim):Bool:=(c.kinds==(if c.domain.isEmpty then [] else fn.params.toList.map λt=>match P.underlying t with|some (.int k)=>some k|_=>none))
def jf30(P:Program)(f:FuncId)(fn:Func)(s:ChangeSpec)(c:OpenClaim):Bool:=(c.pinned==c.pinnedBy)
def jf31(P:Program)(f:FuncId)(fn:Func)(s:ChangeSpec)(c:OpenClaim):Bool:=(c.veiled==(fn.params.toList++s.plain.varTypes P++fn.resultTypes.toList).any (P.veiledRec ·))
def jf32(P:Program)(f:FuncId)(fn:Func)(s:ChangeSpec)(c:OpenClaim):Bool:=c.veiledFits P fn.params.toList (fn.params.toList++s.plain.varTypes P++fn.resultTypes.toList)
theorem joined_of{P:Program}{f:FuncId}{a:Func}{s:ChangeSpec}{c:OpenClaim}
    (M:jf1 P f a s c=true)
    (J:jf2 P f a s c=true)
    (I:jf3 P f a s c=true)
    (H:jf4 P f a s c=true)
    (G:jf5 P f a s c=true)
    (F:jf6 P f a s c=true)
    (D:jf7 P f a s c=true)
    (C:jf8 P f a s c=true)
    (B:jf9 P f a s c=true)
    (A:jf10 P f a s c=true)
    (z:jf11 P f a s c=true)
    (y:jf12 P f a s c=true)
    (x:jf13 P f a s c=true)
    (w:jf14 P f a s c=true)
    (v:jf15 P f a s c=true)
    (u:jf16 P f a s c=true)
    (t:jf17 P f a s c=true)
    (r:jf18 P f a s c=true)
    (q:jf19 P f a s c=true)
    (p:jf20 P f a s c=true)
    (o:jf21 P f a s c=true)
    (n:jf22 P f a s c=true)
    (m:jf23 P f a s c=true)
    (l:jf24 P f a s c=true)
    (k:jf25 P f a s c=true)
    (j:jf26 P f a s c=true)
    (i:jf27 P f a s c=true)
    (h:jf28 P f a s c=true)
    (g:jf29 P f a s c=true)
    (e:jf30 P f a s c=true)
    (d:jf31 P f a s c=true)
    (b:jf32 P f a s c=true)
    : joinedFacts P f a s c=true:=by
  unfold joinedFacts
  simp only[Bool.and_eq_true]
  exact ⟨⟨⟨⟨⟨⟨⟨⟨⟨⟨⟨⟨⟨⟨⟨⟨⟨⟨⟨⟨⟨⟨⟨⟨⟨⟨⟨⟨⟨⟨⟨M,J⟩,I⟩,H⟩,G⟩,F⟩,D⟩,C⟩,B⟩,A⟩,z⟩,y⟩,x⟩,w⟩,v⟩,u⟩,t⟩,r⟩,q⟩,p⟩,o⟩,n⟩,m⟩,l⟩,k⟩,j⟩,i⟩,h⟩,g⟩,e⟩,d⟩,b⟩
end
end Go.Proofs.YtomlallhlakhfaaGreatDoor