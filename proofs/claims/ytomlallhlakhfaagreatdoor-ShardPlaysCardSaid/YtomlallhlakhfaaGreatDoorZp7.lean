/- Part 7 of what the proof rests on. No condition. -/
import Derived.Test.YtomlallhlakhfaaGreatDoorZp6
import Derived.RangeFuncLeaves
import Derived.RangeFuncRecord
import Derived.TacticsIn
set_option linter.unusedVariables false
set_option linter.unusedSimpArgs false
set_option maxRecDepth 100000
set_option maxHeartbeats 4000000
namespace Go.Proofs.YtomlallhlakhfaaGreatDoor
section
open Go Sx Wd
theorem PQ.gr1{w:World}{e:TypeId}{lo m:Nat}{v:Value}{f:Nat->Value}{l:List Nat}(h:PQ w e 1 lo v m (l.map f)): ∃ a c,v = .slice a l.length c/\l.length<=c/\RW w a (l.map f):=by
  obtain ⟨a,c,rfl,g,d,b⟩:=h.row
  rw[List.length_map,Nat.mul_one] at b
  subst b
  exact ⟨a,c,rfl,g,d⟩
theorem PQ.bij{w:World}{e:TypeId}{lo m:Nat}{v:Value}{l:List Nat}(h:PQ w e 1 lo v m (l.map u8v)): ∃ a c,v = .slice a l.length c/\l.length<=c/\RW w a (l.map u8v)/\∀ ad,a=some ad->ad.block<w.heap.size:=by
  obtain ⟨a,c,rfl,f,d⟩:=h.gr1
  exact ⟨a,c,rfl,f,d,λad e=>h.lt (b:=ad.block) (by subst e;rcases h with ⟨q,_⟩|⟨g,j,i,q,_⟩<;>cases q;rfl)⟩
theorem PQ.empty{w:World}{e:TypeId}{b lo:Nat}(a:lo<=w.heap.size):PQ (w.alloc (.cells #[] e)) e b lo (.slice (some ⟨w.heap.size,0,none⟩) 0 0) 0 []:=
  .inr ⟨w.heap.size,0,#[],rfl,a,(atj w (.cells #[] e)).at_,by simp,Nat.le_refl _,by unfold maxLen;omega,by simp,by simp,λc hc=>by simp at hc⟩
theorem PQ.mono{w:World}{e:TypeId}{f lo a m:Nat}{v:Value}{cs:List Value}(h:PQ w e f lo v m cs)(i:a<=lo):PQ w e f a v m cs:=by
  rcases h with h|⟨g,d,b,l,k,j⟩
  · exact .inl h
  · exact .inr ⟨g,d,b,l,Nat.le_trans i k,j⟩
namespace Sx
section
variable {P:Program} {n:Nat} {D:List Deferred} {s:Sl} {w:World} {ops:Array Oper} {K:KK} {rest:List Oper} {ty:TypeId} {pos:String} {af:Array Edge} {d:Nat} {x y:Operand}
theorem ev_appN{t e be:Nat}{de:TypeDesc}{ze:Value}{sz c2:Nat}{z:Value}{v:Value}{lo m mm:Nat}{cs news:List Value}{a:Option Addr}{c:Nat}[hT:aJ P t (.slice e) sz c2 z][hE:aJ P e de 1 be ze]
    (R:ze.cells.size=1) (T : ∀ c∈ze.cells.toList,xX c=false) (hx:k6 s x=some v) (hy:k6 s y=some (.slice a mm c)) (h:PQ w e 1 lo v m cs) (O:mm=news.length) (V:RW w a news) (h1 : ∀ q∈news,q.oneCell'=true) (F : ∀ q∈news,xX q=false) (Y:lo<=w.heap.size) (B:(m+mm)*be<=140737488355328) (d3:m+mm<=140737488355328) :
    ∃ v' w',Ev P s (.call ⟨.builtin .append,[x,y].toArray,#[t,t]⟩) ty w v' w'/\PQ w' e 1 lo v' (m+mm) (cs++news)/\Chg v.ownBlock.toList w w'/\(∀ b,v'.ownBlock=some b->v.ownBlock=some b\/w.heap.size<=b):=by
  obtain ⟨i,hi,A,a0,Z⟩:=hE.inf
  have b7:m+mm<=maxLen:=by unfold maxLen;omega
  have b0 : ∀ o:Obj,Chg v.ownBlock.toList w (w.drew.alloc o):=λo=>⟨rfl,rfl,rfl,by simp,λk hk _=>heap_alloc_old w.drew _ hk⟩
  by_cases h0:mm=0
  · -- nothing is added
    subst h0
    have hn:news=[]:=List.length_eq_zero_iff.1 O.symm
    subst hn
    have r:(Builtin.append_ #[t,t] ty #[v,.slice a 0 c]).run P w = .ok v w:=by
      have hf:(Builtin.firstCells i.size 0 (.slice a 0 c)).run P w = .ok #[] w:=by
        cases a with
        | none=>exact run_firstCells_none (P:=P) (w:=w) _ _ _ _
        | some M=>exact run_firstCells_some (P:=P) w i.size 0 M 0 c [] oS (λj v h=>by simp at h)
      rcases h with ⟨rfl,rfl,rfl⟩|⟨g,d,f,rfl,a1,a2,a3,a4,a5,Q,a7,a8⟩
      · simp[Builtin.append_,run_underlying hT.und,sizeOf,typeInfo,hi,Builtin.lenOf,hf]
      · simp[Builtin.append_,run_underlying hT.und,sizeOf,typeInfo,hi,Builtin.lenOf,hf,a4,storeCells]
    refine ⟨v,w,λρ d' D af g' p=>?_,by rw[List.append_nil];exact h,Chg.refl _ _,λb J=>.inl J⟩
    have n:=p x _ hx
    have C:=p y _ hy
    simp[execOp,resolve,invoke,builtin,n,C,r]
  obtain ⟨M,rfl⟩:=V.some_ oO
  have l : ∀ j q,news[j]?=some q->w.cell? (M.add j)=some q:=λj q u=>by
    obtain ⟨c4,n,hc⟩:=V j q u
    cases n;exact hc
  have G:news.length=mm*i.size:=by rw[A,Nat.mul_one];exact O.symm
  rcases h with ⟨rfl,rfl,rfl⟩|⟨g,d,f,rfl,a1,a2,a3,a4,a5,Q,a7,a8⟩
  · have r:=run_append_nil (P:=P) w t ty e i ze hT.und hi Z M mm c news G l oO oO (by rw[a0];simp only[Nat.zero_add] at B;omega)
    refine ⟨_,_,λρ d' D af g' p=>?_,ctq (cs:=[]++news) (m:=0+mm) R oD T (by simp[O]) (by rw[Nat.zero_add];exact grownCap_ge w mm 0 e) (grownCap_le_maxLen w mm 0 e oO) (λq u=>F q (by simpa using u)) Y,b0 _,λb J=>by cases J;exact .inr (Nat.le_refl _)⟩
    have n:=p x _ hx
    have C:=p y _ hy
    simp[execOp,resolve,invoke,builtin,n,C,r]
  · by_cases hroom:m+mm<=d
    · have hf:=run_firstCells_some (P:=P) w i.size mm M mm c news G l
      have U:=run_storeCells_at P g (0+m*i.size) e news 0 f w a2 (by rw[A];omega) h1
      simp only[Nat.add_zero,Nat.zero_add] at U
      have r:(Builtin.append_ #[t,t] ty #[.slice (some ⟨g,0,none⟩) m d,.slice (some M) mm c]).run P w =
          .ok (.slice (some ⟨g,0,none⟩) (m+mm) d) (w.setRow g (f.toList.take (m*i.size)++news++f.toList.drop (m*i.size+news.length)).toArray):=by
        simp[Builtin.append_,run_underlying hT.und,sizeOf,typeInfo,hi,Builtin.lenOf,hroom,hf,Addr.add_lit,U]
      rw[A] at r
      have H:Ev P s (.call ⟨.builtin .append,[x,y].toArray,#[t,t]⟩) ty w (.slice (some ⟨g,0,none⟩) (m+mm) d) (w.setRow g (f.toList.take (m*1)++news++f.toList.drop (m*1+news.length)).toArray):=λρ d' D af g' p=>by
        have n:=p x _ hx
        have C:=p y _ hy
        simp[execOp,resolve,invoke,builtin,n,C,r]
      refine ⟨_,_,H,.inr ⟨g,d,_,rfl,a1,setRow_heap w g f _ e _ a2,?_,hroom,a5,?_,?_,λq u=>?_⟩,⟨rfl,rfl,rfl,by simp,λk _ hk=>setRow_other w g k _ (λe=>hk (by simp[Value.ownBlock,e]))⟩,λb J=>.inl J⟩
      · simp only[List.size_toArray,List.length_append,List.length_take,List.length_drop,Array.length_toList]
        omega
      · rw[List.length_append,Q,O];omega
      · rw[a7,Nat.add_mul]
        have:m*1+mm*1=(cs++news).length:=by rw[List.length_append,Q,O];omega
        rw[this]
        exact List.take_left
      · rcases List.mem_append.1 u with z|z
        · rcases List.mem_append.1 z with y|y
          · exact a8 q (List.mem_of_mem_take y)
          · exact F q y
        · exact a8 q (List.mem_of_mem_drop z)
    · have X:RW w (some ⟨g,0,none⟩) cs:=by
        obtain ⟨a,c',n,_,r,_⟩:=PQ.row (lo:=lo) (.inr ⟨g,d,f,rfl,a1,a2,a3,a4,a5,Q,a7,a8⟩)
        cases n;exact r
      have r:=run_append_grow (P:=P) w t ty e i ze hT.und hi Z ⟨g,0,none⟩ m d cs (by rw[A];exact Q) (λj q u=>by
        obtain ⟨c4,n,I⟩:=X j q u
        cases n;exact I) M mm c news G l oO oO (growslice_fits oO (by rw[a0];exact B))
      have H:Ev P s (.call ⟨.builtin .append,[x,y].toArray,#[t,t]⟩) ty w (.slice (some ⟨w.heap.size,0,none⟩) (m+mm) (grownCap w (m+mm) d e)) (w.drew.alloc (.cells ((cs++news).toArray++Builtin.zeroCells ze.cells (grownCap w (m+mm) d e-(m+mm))) e)):=λρ d' D af g' p=>by
        have n:=p x _ hx
        have C:=p y _ hy
        have e3:(cs++news).toArray=cs.toArray++news.toArray:=by simp
        rw[e3]
        simp only[execOp,resolve,invoke,builtin,n,C] at r ⊢
        simp[n,C,r,execOp,resolve,invoke,builtin]
      refine ⟨_,_,H,ctq R oD T (by rw[List.length_append,Q,O];omega) (grownCap_ge w (m+mm) d e) (grownCap_le_maxLen w (m+mm) d e b7) (λq u=>?_) Y,b0 _,λb J=>by cases J;exact .inr (Nat.le_refl _)⟩
      rcases List.mem_append.1 u with z|z
      · rw[<- a7] at z
        exact a8 q (List.mem_of_mem_take z)
      · exact F q z
theorem WL.appN{t e u:Nat}{Q:TypeDesc}{ze:Value}{A r:Nat}{z:Value}{v:Value}{lo m mm:Nat}{cs news:List Value}{a:Option Addr}{c:Nat}[hT:aJ P t (.slice e) A r z][hE:aJ P e Q 1 u ze]
    (g:ze.cells.size=1) (i : ∀ c∈ze.cells.toList,xX c=false) (C:k6 s x=some v) (B:k6 s y=some (.slice a mm c)) (h:PQ w e 1 lo v m cs) (G:mm=news.length) (l:RW w a news) (O : ∀ q∈news,q.oneCell'=true) (j : ∀ q∈news,xX q=false) (o:lo<=w.heap.size) (f:(m+mm)*u<=140737488355328) (p:m+mm<=140737488355328) (J:Nat.blt d n=true)
    (k : ∀ v' w',PQ w' e 1 lo v' (m+mm) (cs++news)->Chg v.ownBlock.toList w w'->(∀ b,v'.ownBlock=some b->v.ownBlock=some b\/w.heap.size<=b)->WL P ops K rest n D ((d,v')::s) w') :
    WL P ops K (⟨some d,.call ⟨.builtin .append,[x,y].toArray,#[t,t]⟩,ty,pos,af,none⟩::rest) n D s w:=by
  obtain ⟨v',w',I,F,M,H⟩:=ev_appN (P:=P) (s:=s) (ty:=ty) (t:=t) (hT:=hT) (hE:=hE) g i C B h G l O j o f p
  exact WL.ev I J (k v' w' F M H)
theorem WL.app8{t e r:Nat}{J:TypeDesc}{u p:Nat}{z:Value}{v:Value}{lo mm:Nat}{l news:List Nat}{a:Option Addr}{c:Nat}[hT:aJ P t (.slice e) u p z][hE:aJ P e J 1 r (.int .u8 0)]
    (B:k6 s x=some v) (A:k6 s y=some (.slice a mm c)) (h:PQ w e 1 lo v l.length (l.map u8v)) (C:mm=news.length) (j:RW w a (news.map u8v)) (m:lo<=w.heap.size) (g:(l.length+news.length)*r<=140737488355328) (o:l.length+news.length<=140737488355328) (F:Nat.blt d n=true)
    (k : ∀ v' w',PQ w' e 1 lo v' (l++news).length ((l++news).map u8v)->Chg v.ownBlock.toList w w'->(∀ b,v'.ownBlock=some b->v.ownBlock=some b\/w.heap.size<=b)->WL P ops K rest n D ((d,v')::s) w') :
    WL P ops K (⟨some d,.call ⟨.builtin .append,[x,y].toArray,#[t,t]⟩,ty,pos,af,none⟩::rest) n D s w:=by
  subst C
  refine WL.appN (by rfl) (λq f=>by simp[Value.cells] at f;subst f;rfl) B A h (by rw[List.length_map]) j (λq f=>?_) (λq f=>?_) m g o F (λv' w' I H G=>k v' w' (by rw[List.length_append,List.map_append];exact I) H G)
  · obtain ⟨i,_,rfl⟩:=List.mem_map.1 f;rfl
  · obtain ⟨i,_,rfl⟩:=List.mem_map.1 f;rfl
theorem WL.empty8{t e:TypeId}{j:TypeDesc}{f b i l:Nat}{z ze:Value}{lo:Nat}[hT:aJ P t (.slice e) f b z][hE:aJ P e j i l ze](a:lo<=w.heap.size)(h:Nat.blt d n=true)
    (k : ∀ v w',PQ w' e 1 lo v 0 []->Chg [] w w'->WL P ops K rest n D ((d,v)::s) w'):WL P ops K (⟨some d,.buildSlice t 0 #[],ty,pos,af,none⟩::rest) n D s w:=by
  refine WL.ev (v:=.slice (some ⟨w.heap.size,0,none⟩) 0 0) (w':=w.alloc (.cells #[] e)) (λρ o pos af g m=>?_) h (k _ _ (PQ.empty a) (atj w _).chg)
  simp[execOp,Instr.buildSlice,hT.underlying,hE.sizeOf,Instr.fill,newRow]
  rw[show Array.range 0 = #[] from by decide,Array.map_empty]
end
end Sx
theorem bA_append(l m:List Nat):bA (l++m)=bA l++bA m:=by
  apply ByteArray.ext
  simp[bA]
theorem Sx.Ev.addS{P:Program}{s:Sl}{w:World}{ty:TypeId}{x y:Operand}{t t':TypeId}{a b:ByteArray}(f:k6 s x=some (.string a))(e:k6 s y=some (.string b))(h:a.size+b.size<=9223372036854775807):Ev P s (.binOp .add t x y t') ty w (.string (a++b)) w:=λρ d pos af g hρ=>by
  have e1:=hρ x _ f
  have e2:=hρ y _ e
  simp[execOp,e1,e2,eqGuard,binOp_string_add,run_string_add_sum (P:=P) (w:=w) (a:=a) (b:=b) (h:=h)]
end
section
open Go Sx Wd Fl
theorem pow8(i:Nat):2^(8*i)=256^i:=by rw[Nat.pow_mul]
structure KLw(n k b:Nat)(w0:World)(i:Nat)(w:World):Prop where
  hi:i<=k
  hb:YB w b 5 (leB n i++List.replicate (k-i) 0)
  ch:Chg [] w0 w
theorem bpq(n k:Nat)(w:World)(O:n<18446744073709551616)(Q:k<=8):Ret Tryz.prog 45 [.int .u64 (n:Int),.int .i64 (k:Int)] w λu w'=>(∃ b,u = .slice (some ⟨b,0,none⟩) k k/\YB w' b 5 (leB n k)/\w.heap.size<=b)/\Chg [] w w':=by
 have a:=crf w;refine zE2 Tryz.func45 rfl ?_;refine Sr λ_ A=>za rfl (zz (A (Sr λ_ z=>zm rfl ?_)));refine WL.makeY k k rfl rfl rfl rfl (Nat.le_refl _) oO oO rfl λF M d s q=>?_;have a:=a.ta s;refine za rfl (zz (z (zc λ_ x=>Sr λ_ v=>zm rfl (zn rfl (zm rfl (zz (v (CW.block ?_))))))));refine CW.loop (S:=λi:Nat=>[(0,.int .u64 (n:Int)),(5,.slice (some ⟨F,0,none⟩) k k),(10,.int .i64 (k:Int)),(11,.int .i64 (i:Int))]) (Inv:=KLw n k F w) (mu:=λi=>k-i) (0) ?_ ?_ ?_
 ·exact ⟨Nat.zero_le _,d,a⟩
 ·exact SLp
 rintro i J ⟨R,d,a⟩;refine Sr λ_ t=>zL rfl rfl (zz (t (zc λ_ p=>?_)));refine zy rfl ?_ ?_<;>intro D<;>try simp only[qs] at D
 ·obtain ⟨m,I⟩ : ∃ m,k-i=m+1:=⟨k-i-1,by omega⟩
  rw[I] at d;have B:=iQ n i;refine zkk (p (zc λ_ o=>CW.block (Sr λ_ l=>zm rfl (za rfl (zz (l ?_))))));refine zR λ_ h=>?_;refine zm rfl (zm rfl (zm rfl (zm rfl ?_)));refine WL.ev (Ev.c1q rfl rfl oO) rfl ?_;refine WL.ev (Ev.avx (b:=8*i) rfl rfl (by simp only[IntKind.bits];omega)) rfl ?_;rw[pow8];refine WL.ev (Ev.coq rfl rfl) rfl ?_;refine WL.ev (Ev.ixB (i) rfl rfl oO oO) rfl ?_;refine WL.storeY rfl rfl d (by rw[List.length_append,List.length_replicate];omega) λG f r=>?_;have e:=set_pad (leB n i) (n/256^i%256) m;rw[B] at e;rw[e,<- dpj,show m=k-(i+1) by omega] at f;have d:=f;have a:=a.step r (λy H=>.inr (by rw[List.mem_singleton.1 H];exact q));refine WL.nil (h _ _ _ (o ?_));refine zS λ_ g=>?_;(first|refine zi rfl rfl ?_|refine zo rfl rfl ?_);refine zm rfl (zz (g ?_));refine ⟨rfl,i+1,?_,?_,?_⟩
  ·exact SLp
  ·exact ⟨by omega,d,a⟩
  show k-(i+1)<k-i;omega
 have C:i=k:=by omega
 subst C;rw[Nat.sub_self,List.replicate_zero,List.append_nil] at d;refine CW.exit ?_;refine x (Sr λ_ j=>zm rfl (za rfl (zz (j ?_))));refine zr (zr1 rfl rfl ?_);exact ⟨⟨F,rfl,d,q⟩,a⟩
theorem cut_1{b j c:Nat}(h:j<c):cutAt (some ⟨b,0,none⟩) j c 1=some ⟨b,j,none⟩:=by
  unfold cutAt
  rw[if_neg oO]
  simp[Addr.add]
  intro q;exact q.symm
theorem pad_sgn(neg:Bool)(n:Nat):(if neg=true then (List.replicate (n+1) 0).set 0 1 else List.replicate (n+1) 0)=leB (if neg=true then 1 else 0) 1++List.replicate n 0:=by
  cases neg<;>rfl
theorem YB.pad{w:World}{b:Nat}{E:TypeId}{p xs:List Nat}{o k n:Nat}(h:YB w b E ((p++List.replicate k 0).take o++xs++(p++List.replicate k 0).drop (o+xs.length)))(a:p.length=o)(d:k=xs.length+n):YB w b E (p++xs++List.replicate n 0):=by
  subst a;subst d
  rwa [copy_pad] at h
structure KWr(x:Dy)(b1 b11 cx N:Nat)(ax:Option Addr)(H:List Nat)(w0:World)(i:Nat)(w:World):Prop where
  hi:i<=(wd x.m).length
  h1:BK w b1 89 [.bool x.neg,.slice ax (wd x.m).length cx,.int .i64 x.e]
  hb:YB w b11 5 ((H++(((wd x.m).take i).map λy=>leB y 4).flatten)++List.replicate (4*((wd x.m).length-i)) 0)
  ch:Chg [] w0 w
theorem chj(x:Dy)(rx:Value)(w:World)(c8:NU w rx (wd x.m))(he : -4096<=x.e/\x.e<=61439)(hl:(wd x.m).length<=65535):Ret Tryz.prog 46 [.agg [.bool x.neg,rx,.int .i64 x.e].toArray] w λu w'=>(∃ b,u = .slice (some ⟨b,0,none⟩) (alq x).length (alq x).length/\YB w' b 5 (alq x)/\w.heap.size<=b)/\Chg [] w w':=by
  obtain ⟨⟨T,R,rfl,c5,a8⟩,c7,f1⟩:=c8;obtain ⟨N,hN⟩ : ∃ N,N=5+4*(wd x.m).length:=⟨_,rfl⟩;have f:=crf w;refine zE1 Tryz.func46 rfl ?_;refine Sr λ_ c2=>?_;refine zBh rfl rfl rfl f λI e0 d d8 d4 b0 f=>?_;refine za rfl (zz (c2 (Sr λ_ c1=>zf rfl ?_)));refine WL.ev (Ev.load (v:=.slice T (wd x.m).length R) rfl rfl (d.at_ rfl)) rfl ?_;refine zn rfl ?_;refine WL.ev (Ev.c1q rfl rfl oO) rfl ?_;(first|refine zi rfl rfl ?_|refine zo rfl rfl ?_);have b2:=f.size;refine WL.makeY N N rfl rfl oO oO (Nat.le_refl _) oO oO rfl λg e8 a z r=>?_;have a9:I≠g:=by have:=d.lt;have:=r;omega
  have f:=f.ta z;have d:=d.q8 z;have r:=Nat.le_trans b2 r;refine za rfl (zz (c1 ?_));refine CW.anj (λD s' w'=>D=[]/\BK w' I 89 [.bool x.neg,.slice T (wd x.m).length R,.int .i64 x.e]/\YB w' g 5 (leB (if x.neg=true then 1 else 0) 1++List.replicate (4+4*(wd x.m).length) 0)/\Chg [] w w'/\j0 [(1,.pointer (some ⟨I,0,none⟩)),(3,.slice (some ⟨g,0,none⟩) N N)] s') ?_ ?_
  · refine Sr λ_ b9=>zf rfl (zl d rfl rfl (zz (b9 ?_)));refine zy rfl ?_ ?_<;>intro Q<;>try simp only[qs] at Q
    · have O:=Q
      refine zS λ_ b7=>zm rfl ?_;refine WL.ev (Ev.ixB (0) rfl rfl rfl oO) rfl ?_;refine WL.storeY (v:=1) rfl rfl a (by rw[List.length_replicate];omega) λd9 A C=>?_;have d:=d.dJ C (by simpa using a9);have f:=f.step C (λy J=>.inr (by rw[List.mem_singleton.1 J];exact r));have t:=pad_sgn x.neg (4+4*(wd x.m).length);rw[if_pos O,show 4+4*(wd x.m).length+1=N by omega] at t;rw[t] at A;refine zz (b7 ?_);exact ⟨rfl,d,A,f,(by first|((repeat (first|exact j0.refl|refine j0.oZ (by rfl) ?_));done)|((repeat (first|exact j0.nil|refine j0.cons rfl ?_));done))⟩
    have O : ¬x.neg=true:=by simpa using Q
    have t:=pad_sgn x.neg (4+4*(wd x.m).length);rw[if_neg O,show 4+4*(wd x.m).length+1=N by omega] at t;rw[t] at a;refine zkk ?_;exact ⟨rfl,d,a,f,(by first|((repeat (first|exact j0.refl|refine j0.oZ (by rfl) ?_));done)|((repeat (first|exact j0.nil|refine j0.cons rfl ?_));done))⟩
  rintro _ s' wJ ⟨rfl,d,a,f,a7⟩;refine CW.sub a7 ?_;refine zc λ_ b8=>?_;refine CW.a2j [g] 8 rfl dZ λd3 Y h o=>?_;have f:=f.ta o;have d:=d.q8 o;have p:=d;have p:=d;have a:=a.q8 o;have l:I∉[g]:=by simp;omega
  refine wh 0 rfl h (eM rfl) (wh 1 rfl h (λ_ _=>show Ev _ _ _ _ _ (Value.slice (some ⟨g,1,none⟩) (N-(1)) (N-(1))) _ from (by rw[<- cut_1 (b:=g) (j:=1) (c:=N) oO];exact Ev.brj (1) rfl rfl (by first|rfl|omega) oO)) (wh 2 rfl h (eF rfl) (wh 3 rfl h (λ_ M=>Ev.load (v:=.int .i64 x.e) rfl rfl ((p.dJ M l).at_ rfl)) ?_)));obtain ⟨B,c4⟩ : ∃ B:Nat,(B:Int)=x.e+4096:=⟨(x.e+4096).toNat,by omega⟩;refine wh 4 rfl h (λ_ _=>Ev.kQ rfl rfl oO) ?_;rw[<- c4];refine wh 5 rfl h (λ_ _=>Ev.eZ rfl rfl (jX oO)) ?_;refine WH.k7 6 rfl oR hasF45 rfl rfl (bpq (B) 2 _ oO oD) λv e7 h'=>?_;obtain ⟨⟨f6,rfl,b5,d7⟩,s⟩:=h';have h:=h.ta s;refine ⟨h,?_⟩;have f:=f.trans s;have d:=d.q8 s;have a:=a.q8 s;have k:=iQ (B) 2;have q:(leB (if x.neg=true then 1 else 0) 1).length=1:=by rw[iQ]
  refine WH.copyY 7 (leB (B) 2) rfl oR h (List.mem_singleton.2 rfl) rfl rfl k.symm a b5.row oO oO (by rw[k,List.length_append,q,List.length_replicate];omega) rfl λe6 a H h=>?_;have a:=a.pad (n:=2+4*(wd x.m).length) q (by first|(rw[k];done)|(rw[k];omega));have d:=d.dJ H l;have f:=f.step H (λy J=>.inr (by rw[List.mem_singleton.1 J];exact r));refine WH.done oR (Y _ _ _ ?_);refine b8 (zc λ_ a6=>?_);refine CW.a2j [g] 8 rfl dZ λd2 X h o=>?_;have f:=f.ta o;have d:=d.q8 o;have p:=d;have p:=d;have a:=a.q8 o;have l:I∉[g]:=by simp;omega
  refine wh 0 rfl h (eM rfl) (wh 1 rfl h (λ_ _=>show Ev _ _ _ _ _ (Value.slice (some ⟨g,3,none⟩) (N-(3)) (N-(3))) _ from (by rw[<- cut_1 (b:=g) (j:=3) (c:=N) oO];exact Ev.brj (3) rfl rfl (by first|rfl|omega) oO)) (wh 2 rfl h (eF rfl) (wh 3 rfl h (λ_ M=>Ev.load (v:=.slice T (wd x.m).length R) rfl rfl ((p.dJ M l).at_ rfl)) (wh 4 rfl h (λ_ _=>Ev.len rfl) (wh 5 rfl h (λ_ _=>Ev.eZ rfl rfl (jX oO)) ?_)))));refine WH.k7 6 rfl oR hasF45 rfl rfl (bpq ((wd x.m).length) 2 _ oO oD) λv e5 h'=>?_;obtain ⟨⟨f5,rfl,b4,d6⟩,s⟩:=h';have h:=h.ta s;refine ⟨h,?_⟩;have f:=f.trans s;have d:=d.q8 s;have a:=a.q8 s;have k:=iQ ((wd x.m).length) 2;have q:((leB (if x.neg=true then 1 else 0) 1++leB B 2)).length=3:=by rw[List.length_append,iQ,iQ]
  refine WH.copyY 7 (leB ((wd x.m).length) 2) rfl oR h (List.mem_singleton.2 rfl) rfl rfl k.symm a b4.row oO oO (by rw[k,List.length_append,q,List.length_replicate];omega) rfl λe4 a G h=>?_;have a:=a.pad (n:=4*(wd x.m).length) q (by first|(rw[k];done)|(rw[k];omega));have d:=d.dJ G l;have f:=f.step G (λy J=>.inr (by rw[List.mem_singleton.1 J];exact r));refine WH.done oR (X _ _ _ ?_);refine a6 (zc λ_ a5=>Sr λ_ a4=>zf rfl ?_);refine WL.ev (Ev.load (v:=.slice T (wd x.m).length R) rfl rfl (d.at_ rfl)) rfl ?_;refine zn rfl (zm rfl (zz (a4 (CW.block ?_))));refine CW.loop (S:=λi:Nat=>[(1,.pointer (some ⟨I,0,none⟩)),(3,.slice (some ⟨g,0,none⟩) N N),(33,.slice T (wd x.m).length R),(34,.int .i64 ((wd x.m).length:Int)),(35,.int .i64 (i:Int))]) (Inv:=KWr x I g R N T ((leB (if x.neg=true then 1 else 0) 1++leB B 2)++leB (wd x.m).length 2) w) (mu:=λi=>(wd x.m).length-i) (0) ?_ ?_ ?_
  · exact ⟨Nat.zero_le _,d,by rw[List.take_zero,List.map_nil,List.flatten_nil,List.append_nil,Nat.sub_zero];exact a,f⟩
  · exact SLp
  rintro i wr ⟨hi,d,a,f⟩;refine Sr λ_ a3=>zL rfl rfl (zz (a3 (zc λ_ a2=>?_)));refine zy rfl ?_ ?_<;>intro c6<;>try simp only[qs] at c6
  · have f0:=c7.getD i
    refine zkk (a2 (zc λ_ a1=>CW.block (Sr λ_ a0=>zm rfl ?_)));refine WL.ev (Ev.ixR (i) rfl rfl (a8.q8 f) oO oO oT) rfl ?_;refine WL.ev (Ev.load rfl rfl ((a8.q8 f).u32 oF)) rfl ?_;refine za rfl (za rfl (zz (a0 ?_)));refine CW.a2j [g] 9 rfl dZ λd1 V h o=>?_;have f:=f.ta o;have d:=d.q8 o;have a:=a.q8 o;have l:I∉[g]:=by simp;omega
    refine wh 0 rfl h (eM rfl) (wh 1 rfl h (eM rfl) (wh 2 rfl h (λ_ _=>Ev.c1q rfl rfl oO) (wh 3 rfl h (λ_ _=>Ev.kQ rfl rfl oO) ?_)));rw[show (5:Int)+4*(i:Int)=((5+4*i:Nat):Int) by omega];refine wh 4 rfl h (λ_ _=>show Ev _ _ _ _ _ (Value.slice (some ⟨g,5+4*i,none⟩) (N-(5+4*i)) (N-(5+4*i))) _ from (by rw[<- cut_1 (b:=g) (j:=5+4*i) (c:=N) oO];exact Ev.brj (5+4*i) rfl rfl (by first|rfl|omega) oO)) (wh 5 rfl h (eM rfl) (wh 6 rfl h (λ_ _=>Ev.eZ rfl rfl (jX oO)) ?_));refine WH.k7 7 rfl oR hasF45 rfl rfl (bpq ((wd x.m).getD i 0) 4 _ oO oD) λv e3 h'=>?_;obtain ⟨⟨f4,rfl,b3,d5⟩,s⟩:=h';have h:=h.ta s;refine ⟨h,?_⟩;have f:=f.trans s;have d:=d.q8 s;have a:=a.q8 s;have k:=iQ ((wd x.m).getD i 0) 4;have q:(((leB (if x.neg=true then 1 else 0) 1++leB B 2)++leB (wd x.m).length 2)++(((wd x.m).take i).map λy=>leB y 4).flatten).length=5+4*i:=by simp only[List.length_append,iQ,bpj,List.length_take];omega
    refine WH.copyY 8 (leB ((wd x.m).getD i 0) 4) rfl oR h (List.mem_singleton.2 rfl) rfl rfl k.symm a b3.row oO oO (by rw[k,List.length_append,q,List.length_replicate];omega) rfl λe2 a F h=>?_;have a:=a.pad (n:=4*((wd x.m).length-(i+1))) q (by first|(rw[k];done)|(rw[k];omega));have d:=d.dJ F l;have f:=f.step F (λy J=>.inr (by rw[List.mem_singleton.1 J];exact r));rw[List.append_assoc ((leB (if x.neg=true then 1 else 0) 1++leB B 2)++leB (wd x.m).length 2),<- d9q oO] at a;refine WH.done oR (V _ _ _ ?_);refine a1 (zS λ_ U=>?_);(first|refine zi rfl rfl ?_|refine zo rfl rfl ?_);refine zm rfl (zz (U ?_));refine ⟨rfl,i+1,?_,?_,?_⟩
    · exact SLp
    · exact ⟨by omega,d,a,f⟩
    show (wd x.m).length-(i+1)<(wd x.m).length-i;omega
  have c3:i=(wd x.m).length:=by omega
  subst c3;rw[List.take_length,Nat.sub_self,Nat.mul_zero,List.replicate_zero,List.append_nil] at a;refine CW.exit ?_;refine a5 (Sr λ_ Z=>zm rfl (za rfl (zz (Z ?_))));refine zr (zr1 rfl rfl ?_);refine ⟨⟨g,?_,?_,r⟩,f⟩
  · rw[pJ,<- hN]
  have e1:(x.e+4096).toNat=B:=by omega
  unfold alq;rw[e1];exact a
theorem NU.at_{w w':World}{r:Value}{l:List Nat}(h:NU w r l)(a:Chg [] w w'):NU w' r l:=h.q8 a
def leV:List Nat->Nat
  | []=>0
  | x::l=>x+256*leV l
theorem leV_snoc(l:List Nat)(c:Nat):leV (l++[c])=leV l+c*256^l.length:=by
  induction l with
  | nil=>simp[leV]
  | cons x l ih=>
    rw[List.cons_append,leV,ih,leV,List.length_cons,Nat.pow_succ,Nat.mul_add,Nat.add_assoc]
    congr 2
    rw[Nat.mul_comm 256,Nat.mul_assoc]
def B8(l:List Nat):Prop:=∀ x∈l,x<256
theorem leV_lt{l:List Nat}(h:B8 l):leV l<256^l.length:=by
  induction l with
  | nil=>decide
  | cons x l ih=>
    have d:=h x (List.mem_cons_self ..)
    have b:=ih λy a=>h y (List.mem_cons_of_mem _ a)
    rw[leV,List.length_cons,Nat.pow_succ]
    omega
theorem B8.take{l:List Nat}(h:B8 l)(k:Nat):B8 (l.take k):=λx hx=>h x (List.mem_of_mem_take hx)
theorem B8.drop{l:List Nat}(h:B8 l)(k:Nat):B8 (l.drop k):=λx hx=>h x (List.mem_of_mem_drop hx)
theorem B8.getD{l:List Nat}(h:B8 l)(i:Nat):l.getD i 0<256:=by
  rw[List.getD_eq_getElem?_getD]
  cases q:l[i]? with
  | none=>decide
  | some x=>exact h x (List.mem_of_getElem? q)
def rdN(bs:List Nat)(p:Nat)(bad:Bool)(k:Nat):Nat×Nat×Bool:=if bad=true\/bs.length-p<k then (0,p,true) else (leV ((bs.drop p).take k),p+k,false)
def rdC(bs:List Nat)(p:Nat)(bad:Bool):Nat×Nat×Bool:=if 1099511627776<(rdN bs p bad 8).1 then (0,(rdN bs p bad 8).2.1,true) else rdN bs p bad 8
def isU8:Value->Bool
  | .int .u8 _=>true
  | _=>false
theorem Sx.RW.d8j{w w':World}{a:Option Addr}{l:List Nat}{b:Nat}{T:TypeId}{cs:List Value}(h:RW w a (l.map u8v))(f:BK w b T cs)(j:Chg [b] w w')(g : ∀ c∈cs,isU8 c=false):RW w' a (l.map u8v):=λi u hu=>by
  obtain ⟨ad,e,hcell⟩:=h i u hu
  refine ⟨ad,e,j.cell hcell λhm=>?_⟩
  simp only[List.mem_singleton] at hm
  have hu8:isU8 u=true:=by
    obtain ⟨x,_,rfl⟩:=List.mem_map.1 (List.mem_of_getElem? hu)
    rfl
  have d:=hcell
  cases had:ad.add i with
  | mk b' o' sp=>
    rw[had] at d hm
    simp only at hm
    subst hm
    cases sp with
    | none=>
      rw[a7j f] at d
      have:=g u (List.mem_of_getElem? d)
      rw[hu8] at this;cases this
    | some q=>
      have:w.cell? ⟨b',o',some q⟩=none:=by simp[World.cell?,show w.heap[b']?=_ from f]
      rw[this] at d;cases d
def TpM(lo:Nat)(w:World)(bt:Nat)(bs:List Nat)(p:Nat)(bad:Bool):Prop:=∃ a c,BK w bt 141 [.slice a (bs.length-p) c,.bool bad]/\RW w a ((bs.drop p).map u8v)/\p<=bs.length/\bs.length-p<=c/\bt<lo/\∀ ad,a=some ad->ad.block<lo
theorem TpM.q8{lo:Nat}{w w':World}{d:Nat}{e:List Nat}{p:Nat}{bad:Bool}(h:TpM lo w d e p bad)(b:Chg [] w w'):TpM lo w' d e p bad:=by
  obtain ⟨a,c,j,i,g,f⟩:=h
  exact ⟨a,c,j.q8 b,i.q8 b,g,f⟩
theorem TpM.dJ{lo:Nat}{w w':World}{i:Nat}{p:Nat}{j:List Nat}{bad:Bool}{T:List Nat}(h:TpM lo w i j p bad)(f:Chg T w w')(hT : ∀ b∈T,lo<=b):TpM lo w' i j p bad:=by
  obtain ⟨a,c,o,n,m,l,k,g⟩:=h
  exact ⟨a,c,o.dJ f (λd=>by have:=hT _ d;omega),n.keepB f (λq e d=>by have:=hT _ d;have:=g q e;omega),m,l,k,g⟩
theorem cutAt_lt{lo n c:Nat}{a:Option Addr}(h : ∀ ad,a=some ad->ad.block<lo): ∀ ad,cutAt a n c 1=some ad->ad.block<lo:=by
  intro ad e
  unfold cutAt at e
  split at e
  · first|exact h _ e|(cases e;done)|(obtain ⟨x,b,rfl⟩:=Option.map_eq_some_iff.1 e;exact h x b)
  · obtain ⟨x,b,rfl⟩:=Option.map_eq_some_iff.1 e
    have:=h x b
    simp only[Addr.add]
    split<;>first|exact this|(simpa using this)
theorem u8_tape(a:Option Addr)(m c:Nat)(bad:Bool): ∀ v∈[Value.slice a m c,.bool bad],isU8 v=false:=by
  intro v b
  simp only[List.mem_cons,List.not_mem_nil,or_false] at b
  rcases b with rfl|rfl<;>rfl
theorem take_spec(lo h p:Nat)(b:List Nat)(bad:Bool)(n:Nat)(w:World)(hT:TpM lo w h b p bad)(U:b.length<=140737488355328)(T:n<=1000):Ret Tryz.prog 148 [.pointer (some ⟨h,0,none⟩),.int .i64 (n:Int)] w λu w'=>((bad=true\/b.length-p<n)/\u = .slice none 0 0/\TpM lo w' h b p true/\Chg [h] w w')\/(¬(bad=true\/b.length-p<n)/\(∃ a,u = .slice a n n/\RW w' a (((b.drop p).take n).map u8v))/\TpM lo w' h b (p+n) false/\Chg [h] w w'):=by
  obtain ⟨a,c,f,I,Q,G,s,x⟩:=hT;have d:Chg [h] w w:=Chg.refl _ _;have t:=f;refine zE2 Tryz.func148 rfl ?_;refine Sr λ_ D=>za rfl (zz (D (zc λ_ C=>?_)));refine CW.oX 18 (decide (bad=true\/b.length-p<n)) ?_ ?_
  · refine zS λ_ i=>zm rfl (zP rfl (zf rfl (zl f rfl rfl (zm rfl ?_))));refine zb ?_ ?_<;>intro F<;>try simp only[qs] at F
    · refine zv rfl (zv rfl (zv rfl (zv rfl (zv rfl (zv rfl (zv rfl (zt rfl rfl (zz (i ?_)))))))));refine ⟨rfl,rfl,j0.g8 rfl ?_ ?_⟩
      · first|(cases bad<;>first|(simp_all;done)|(simp;omega)|(simp_all;omega))
      exact SMg
    refine zw rfl (zm rfl (zw rfl (zm rfl (zw rfl (zP rfl (zw rfl (zf rfl (zw rfl ?_))))))));refine WL.ev (Ev.load (v:=.slice a (b.length-p) c) rfl rfl (f.at_ rfl)) rfl ?_;refine zw rfl (zn rfl (zw rfl (zG rfl rfl (ze rfl rfl (zz (i ?_))))));refine ⟨rfl,rfl,j0.g8 rfl ?_ ?_⟩
    · first|(cases bad<;>first|(simp_all;done)|(simp;omega)|(simp_all;omega))
    exact SMg
  refine zy rfl ?_ ?_<;>intro g<;>try simp only[qs] at g
  · have m:bad=true\/b.length-p<n:=g
    refine Sr λ_ B=>zm rfl (zP rfl (zf rfl ?_));refine WL.bJ rfl rfl o1 f oS rfl λO e r=>?_;(try simp only[qt] at e);have d:=d.s1 r;have f:=e;refine zz (B (Sr λ_ A=>za rfl (zz (A ?_))));refine zr (zr1 rfl rfl ?_);exact .inl ⟨m,rfl,⟨a,c,f,I.d8j t d (u8_tape _ _ _ _),Q,G,s,x⟩,d⟩
  have m : ¬(bad=true\/b.length-p<n):=λz=>by have J:=g;rcases z with z|z<;>simp_all<;>omega
  have R:n<=b.length-p:=by have:=λz=>m (.inr z);omega
  have H:bad=false:=by cases bad with|true=>exact absurd (.inl rfl) m|false=>rfl
  have o:((b.drop p).map u8v).length=b.length-p:=by rw[List.length_map,List.length_drop]
  refine zkk (C (Sr λ_ y=>zm rfl (zP rfl (zf rfl ?_))));refine WL.ev (Ev.load (v:=.slice a (b.length-p) c) rfl rfl (f.at_ rfl)) rfl ?_;refine zm rfl (zm rfl ?_);refine WL.ev (Ev.slice3n (n) (n) rfl rfl rfl rfl rfl oO oO) rfl ?_;refine za rfl (zz (y (Sr λ_ k=>zm rfl (zm rfl (zP rfl (zf rfl ?_))))));refine WL.ev (Ev.load (v:=.slice a (b.length-p) c) rfl rfl (f.at_ rfl)) rfl ?_;refine zm rfl ?_;refine WL.ev (Ev.brj (n) rfl rfl rfl oO) rfl ?_;refine zP rfl (zf rfl ?_);refine WL.bJ rfl rfl o1 f oS rfl λM e q=>?_;(try simp only[qt] at e);have d:=d.s1 q;have f:=e;refine zz (k (Sr λ_ j=>zm rfl (za rfl (zz (j ?_)))));refine zr (zr1 rfl rfl ?_);have l:=I.d8j t d (u8_tape _ _ _ _);refine .inr ⟨m,⟨a,rfl,by rw[List.map_take];exact l.take n⟩,⟨cutAt a n c 1,c-n,?_,?_,by omega,by omega,s,cutAt_lt x⟩,d⟩
  · rw[show b.length-(p+n)=b.length-p-n by omega,<- H];exact f
  have J:=l.cut n c (by rw[o];omega) (by rw[o];omega)
  rwa [<- List.map_drop,List.drop_drop] at J
theorem Sx.RW.u8{w:World}{a:Option Addr}{l:List Nat}{j:Nat}(h:RW w a (l.map u8v))(b:j<l.length):w.cell? (adr a j)=some (.int .u8 ((l.getD j 0:Nat):Int)):=h.at_ (map_at u8v 0 b)
theorem leV_take{l:List Nat}{i:Nat}(h:i<l.length):leV (l.take (i+1))=leV (l.take i)+l.getD i 0*256^i:=by
  rw[asq h,leV_snoc,List.length_take,Nat.min_eq_left oO]
theorem pow_le8{i:Nat}(h:i<=7):256^i<=72057594037927936:=Nat.le_trans (Nat.pow_le_pow_right oD h) oD
theorem window{w:World}{lo d p k:Nat}{b:List Nat}{bad:Bool}{v:Value}{w':World}(o:B8 b)(q:p<=b.length)
    (h:((bad=true\/b.length-p<k)/\v = .slice none 0 0/\TpM lo w' d b p true/\Chg [d] w w')\/(¬(bad=true\/b.length-p<k)/\(∃ a,v = .slice a k k/\RW w' a (((b.drop p).take k).map u8v))/\TpM lo w' d b (p+k) false/\Chg [d] w w')) :
    ∃ a l,v = .slice a l.length l.length/\RW w' a (l.map u8v)/\B8 l/\l.length<=k/\leV l=(rdN b p bad k).1/\TpM lo w' d b (rdN b p bad k).2.1 (rdN b p bad k).2.2/\Chg [d] w w':=by
  rcases h with ⟨f,rfl,i,g⟩|⟨f,⟨a,rfl,m⟩,i,g⟩
  · have e:rdN b p bad k=(0,p,true):=if_pos f
    rw[e]
    exact ⟨none,[],rfl,RW.nil,λx j=>(by cases j),Nat.zero_le _,rfl,i,g⟩
  · have e:rdN b p bad k=(leV ((b.drop p).take k),p+k,false):=if_neg f
    have r:k<=b.length-p:=by have:=λz=>f (.inr z);omega
    have n:((b.drop p).take k).length=k:=by rw[List.length_take,List.length_drop];omega
    rw[e]
    exact ⟨a,(b.drop p).take k,by rw[n],m,(o.drop p).take k,by omega,rfl,i,g⟩
structure KNm(l:List Nat)(a:Option Addr)(lo bt:Nat)(bs:List Nat)(q:Nat)(bd:Bool)(w0:World)(i:Nat)(w:World):Prop where
  hi:i<=l.length
  r:RW w a (l.map u8v)
  t:TpM lo w bt bs q bd
  ch:Chg [bt] w0 w
theorem ajj(lo f p:Nat)(d:List Nat)(bad:Bool)(k:Nat)(w:World)(hT:TpM lo w f d p bad)(O:d.length<=140737488355328)(Q:B8 d)(V:k<=8):Ret Tryz.prog 83 [.pointer (some ⟨f,0,none⟩),.int .i64 (k:Int)] w λu w'=>u = .int .u64 ((rdN d p bad k).1:Int)/\TpM lo w' f d (rdN d p bad k).2.1 (rdN d p bad k).2.2/\Chg [f] w w':=by
 have C:p<=d.length:=hT.choose_spec.choose_spec.2.2.1;refine zE2 Tryz.func83 rfl ?_;refine Sr λ_ A=>za rfl (zz (A (Sr λ_ z=>za rfl (zz (z (zc λ_ y=>Sr λ_ x=>zm rfl (zm rfl ?_)))))));refine WL.call hasF148 rfl rfl (take_spec lo f p d bad k _ hT O oO) λv U R=>?_;obtain ⟨a,l,rfl,q,s,J,D,hT,e⟩:=window Q C R;refine zn rfl (zm rfl (zz (x (CW.block ?_))));refine CW.loop (S:=λi:Nat=>[(5,.int .u64 ((leV (l.take i):Nat):Int)),(10,.slice a l.length l.length),(11,.int .i64 (l.length:Int)),(12,.int .i64 (i:Int))]) (Inv:=KNm l a lo f d (rdN d p bad k).2.1 (rdN d p bad k).2.2 w) (mu:=λi=>l.length-i) (0) ?_ ?_ ?_
 ·exact ⟨Nat.zero_le _,q,hT,e⟩
 ·exact SLp
 rintro i T ⟨X,q,hT,e⟩;refine Sr λ_ t=>zL rfl rfl (zz (t (zc λ_ o=>?_)));refine zy rfl ?_ ?_<;>intro G<;>try simp only[qs] at G
 ·have M:=s.getD i
  have I:=pow_le8 (i:=i) oO;have r:=leV_lt (s.take i);rw[List.length_take,Nat.min_eq_left oO] at r;have B:=leV_take (l:=l) (i:=i) oO;have H:l.getD i 0*256^i<=255*256^i:=Nat.mul_le_mul_right _ oO;refine zkk (o (zc λ_ n=>CW.block (Sr λ_ m=>zm rfl ?_)));refine WL.ev (Ev.ixR (i) rfl rfl q oO oO oT) rfl ?_;refine WL.ev (Ev.load rfl rfl (q.u8 oO)) rfl ?_;refine za rfl (za rfl (zz (m ?_)));refine zR λ_ h=>?_;refine zm rfl (zm rfl ?_);refine WL.ev (Ev.eZ rfl rfl (jX oO)) rfl ?_;refine zm rfl ?_;refine WL.ev (Ev.c1q rfl rfl oO) rfl ?_;refine WL.ev (Ev.aqx (a:=l.getD i 0) (b:=8*i) rfl rfl) rfl ?_;rw[pow8,Nat.mod_eq_of_lt oO];refine WL.ev (Ev.orU rfl rfl rfl (by simp only[IntKind.bits];omega) (by simp only[IntKind.bits];omega)) rfl ?_;rw[show leV (l.take i)||| l.getD i 0*256^i=leV (l.take (i+1)) from by rw[B,<- pow8,agj (by rw[pow8];exact r)]];refine za rfl ?_;refine WL.nil (h _ _ _ (n ?_));refine zS λ_ g=>?_;(first|refine zi rfl rfl ?_|refine zo rfl rfl ?_);refine zm rfl (zz (g ?_));refine ⟨rfl,i+1,?_,?_,?_⟩
  ·exact SLp
  ·exact ⟨by omega,q,hT,e⟩
  show l.length-(i+1)<l.length-i;omega
 have F:i=l.length:=by omega
 subst F;rw[List.take_length,D];refine CW.exit ?_;refine y (Sr λ_ j=>zm rfl (za rfl (zz (j ?_))));refine zr (zr1 rfl rfl ?_);exact ⟨rfl,hT,e⟩
theorem TpM.set{x:Bool}{w w':World}{lo d p:Nat}{f:List Nat}{bad:Bool}{a:Option Addr}{m c:Nat}(h:TpM lo w d f p bad)(l:BK w d 141 [.slice a m c,.bool bad])(b:BK w' d 141 [.slice a m c,.bool x])(k:Chg [d] w w'):TpM lo w' d f p x:=by
  obtain ⟨j,i,g,t,s,r,q,o⟩:=h
  have e:=l.symm.trans g
  have n:=t.d8j g k (u8_tape _ _ _ _)
  injection e with e
  injection e with e _
  have v:[Value.slice a m c,.bool bad]=[.slice j (f.length-p) i,.bool bad]:=by
    have:=congrArg Array.toList e;simpa using this
  injection v with u _
  rw[u] at b
  exact ⟨j,i,b,n,s,r,q,o⟩
theorem csx{a:List Nat}(b:B8 a)(p:Nat)(bad:Bool)(k:Nat)(e:k<=8):(rdN a p bad k).1<18446744073709551616:=by
  unfold rdN;split
  · show (0:Nat)<_;decide
  · have h:=leV_lt ((b.drop p).take k)
    have d:((a.drop p).take k).length<=8:=by rw[List.length_take];omega
    have g:256^((a.drop p).take k).length<=256^8:=Nat.pow_le_pow_right oD d
    have f:(256:Nat)^8=18446744073709551616:=by decide
    show leV _<_
    omega
theorem count_spec21(lo o p:Nat)(b:List Nat)(bad:Bool)(w:World)(hT:TpM lo w o b p bad)(G:b.length<=140737488355328)(A:B8 b):Ret Tryz.prog 80 [.pointer (some ⟨o,0,none⟩)] w λu w'=>u = .int .i64 ((rdC b p bad).1:Int)/\TpM lo w' o b (rdC b p bad).2.1 (rdC b p bad).2.2/\Chg [o] w w':=by
 refine zE1 Tryz.func80 rfl ?_;refine Sr λ_ y=>za rfl (zz (y (Sr λ_ x=>zm rfl ?_)));refine WL.call hasF83 rfl rfl (ajj lo o p b bad 8 _ hT G A oD) λv J H=>?_;obtain ⟨rfl,hT,k⟩:=H;have j:=csx A p bad 8 oD;generalize hN:rdN b p bad 8=R at *;obtain ⟨n,q,I⟩:=R;dsimp only at hT j;dsimp only;refine za rfl (zz (x (zc λ_ t=>Sr λ_ s=>zm rfl (zG rfl rfl (zz (s ?_))))));refine zy rfl ?_ ?_<;>intro f<;>try simp only[qs] at f
 ·have l:1099511627776<n:=by have:=f;omega
  have e:rdC b p bad=(0,q,true):=by unfold rdC;rw[hN,if_pos l]
  obtain ⟨a,c,z,M,O,C,D,F⟩:=id hT;refine Sr λ_ r=>zm rfl (zP rfl (zf rfl ?_));refine WL.bJ rfl rfl rfl z oS rfl λB m d=>?_;simp only[List.set_cons_succ,List.set_cons_zero] at m;refine zz (r (Sr λ_ h=>za rfl (zz (h ?_))));refine zr (zr1 rfl rfl ?_);rw[e];exact ⟨rfl,hT.set z m d,k.trans d⟩
 have i : ¬1099511627776<n:=by have:=f;omega
 have e:rdC b p bad=(n,q,I):=by unfold rdC;rw[hN,if_neg i]
 refine zkk (t (Sr λ_ g=>zm rfl ?_));refine WL.ev (Ev.eZ rfl rfl (tX oO)) rfl ?_;refine za rfl (zz (g ?_));refine zr (zr1 rfl rfl ?_);rw[e];exact ⟨rfl,hT,k⟩
theorem aix{a:List Nat}(b:B8 a)(p:Nat)(bad:Bool)(k:Nat):(rdN a p bad k).1<256^k:=by
  unfold rdN;split
  · exact Nat.pow_pos oD
  · have e:=leV_lt ((b.drop p).take k)
    have d:((a.drop p).take k).length<=k:=by rw[List.length_take];omega
    exact Nat.lt_of_lt_of_le e (Nat.pow_le_pow_right oD d)
def rdW(bs:List Nat)(p:Nat)(bad:Bool):Nat->List Nat×Nat×Bool
  | 0=>([],p,bad)
  | n+1=>((rdW bs p bad n).1++[(rdN bs (rdW bs p bad n).2.1 (rdW bs p bad n).2.2 4).1],(rdN bs (rdW bs p bad n).2.1 (rdW bs p bad n).2.2 4).2)
theorem a1q(a:List Nat)(p:Nat)(bad:Bool)(n:Nat):(rdW a p bad n).1.length=n:=by
  induction n with
  | zero=>rfl
  | succ n ih=>rw[rdW];simp[ih]
theorem rdW_W{a:List Nat}(b:B8 a)(p:Nat)(bad:Bool)(n:Nat):W (rdW a p bad n).1:=by
  induction n with
  | zero=>exact ayx
  | succ n ih=>rw[rdW];exact apq.2 ⟨ih,zX.2 ⟨aix b _ _ 4,ayx⟩⟩
def rdD(bs:List Nat)(p:Nat)(bad:Bool):Bool×List Nat×Int×Nat×Bool:=
  match rdN bs p bad 1 with
  | (n1,p1,d1)=>match rdN bs p1 d1 2 with
    | (n2,p2,d2)=>match rdN bs p2 d2 2 with
      | (n3,p3,d3)=>if 1<n1\/160<n3 then (false,[],0,p3,true) else
        match rdW bs p3 d3 n3 with
        | (ws,q,bd)=>(decide ((n1:Int)=1),ws,(n2:Int)-4096,q,if n3=0 then decide (bd=true\/(n1:Int)=1\/(n2:Int)-4096≠0) else decide (bd=true\/ws.getD 0 0%2=0\/ws.getD (n3-1) 0=0))
theorem TpM.q9{lo:Nat}{w w':World}{a:Nat}{p:Nat}{d:List Nat}{bad:Bool}{b:Nat}{T:TypeId}{cs:List Value}(h:TpM lo w a d p bad)(_:BK w b T cs)(f:Chg [b] w w')(_ : ∀ c∈cs,xX c=false)(e:lo<=b:=by omega):TpM lo w' a d p bad:=h.dJ f λy hy=>by rw[List.mem_singleton.1 hy];exact e
structure KDy(lo bt b2 b6 n3 p3:Nat)(ng d3:Bool)(e:Int)(bs:List Nat)(w0:World)(g:Nat×Value)(w:World):Prop where
  hi:g.1<=n3
  t:TpM lo w bt bs (rdW bs p3 d3 g.1).2.1 (rdW bs p3 d3 g.1).2.2
  h2:BK w b2 89 [.bool false,.slice none 0 0,.int .i64 0]
  h6:BK w b6 89 [.bool ng,g.2,.int .i64 e]
  g:GR w 162 kZ w0.heap.size [b2,b6] g.2 (rdW bs p3 d3 g.1).1
  ch:Chg [bt] w0 w
theorem daj(lo z p:Nat)(s:List Nat)(bad:Bool)(w:World)(hT:TpM lo w z s p bad)(hL:s.length<=140737488355328)(hB:B8 s)(h7:lo<=w.heap.size):Ret Tryz.prog 81 [.pointer (some ⟨z,0,none⟩)] w λu w'=>∃ sl,u = .agg [.bool (rdD s p bad).1,sl,.int .i64 (rdD s p bad).2.2.1].toArray/\NU w' sl (rdD s p bad).2.1/\TpM lo w' z s (rdD s p bad).2.2.2.1 (rdD s p bad).2.2.2.2/\Chg [z] w w':=by
 have l2:z<lo:=hT.choose_spec.choose_spec.2.2.2.2.1;have j:Chg [z] w w:=Chg.refl _ _;refine zE1 Tryz.func81 rfl ?_;refine Sr λ_ g5=>?_;refine zAh rfl rfl j λb2 m5 d e4 l1 e2 j=>?_;have hT:=hT.q8 e4;refine zz (g5 (Sr λ_ g4=>zm rfl ?_));refine WL.call hasF83 rfl rfl (ajj lo z _ s _ 1 _ hT hL hB oD) λv w1 h'=>?_;obtain ⟨rfl,hT,Q⟩:=h';have h6:=aix hB p bad 1;generalize hR1:rdN s p bad 1=R1 at *;obtain ⟨n1,p1,d1⟩:=R1;dsimp only at hT h6;dsimp only;have j:=j.step Q (λy t=>.inl t);have d:=d.dJ Q oT;refine zm rfl ?_;refine WL.call hasF83 rfl rfl (ajj lo z _ s _ 2 _ hT hL hB oD) λv w2 h'=>?_;obtain ⟨rfl,hT,Q⟩:=h';have h5:=aix hB p1 d1 2;generalize hR2:rdN s p1 d1 2=R2 at *;obtain ⟨n2,p2,d2⟩:=R2;dsimp only at hT h5;dsimp only;have j:=j.step Q (λy t=>.inl t);have d:=d.dJ Q oT;refine WL.ev (Ev.eZ rfl rfl (tX oO)) rfl ?_;refine WL.ev (Ev.dX rfl rfl oO) rfl ?_;refine zm rfl ?_;refine WL.call hasF83 rfl rfl (ajj lo z _ s _ 2 _ hT hL hB oD) λv w3 h'=>?_;obtain ⟨rfl,hT,Q⟩:=h';have h4:=aix hB p2 d2 2;generalize hR3:rdN s p2 d2 2=R3 at *;obtain ⟨C,I,R⟩:=R3;dsimp only at hT h4;dsimp only;have j:=j.step Q (λy t=>.inl t);have d:=d.dJ Q oT;refine WL.ev (Ev.eZ rfl rfl (tX oO)) rfl ?_;refine za rfl (za rfl (za rfl (zz (g4 (zc λ_ g3=>?_)))));refine CW.oX 21 (decide (1<n1\/160<C)) ?_ ?_
 ·refine zS λ_ b9=>zm rfl (zG rfl rfl (zm rfl ?_));refine zb ?_ ?_<;>intro i3<;>try simp only[qs] at i3
  ·refine zv rfl (zv rfl (zt rfl rfl (zz (b9 ?_))));refine ⟨rfl,rfl,j0.g8 rfl ?_ ?_⟩
   ·first|(exact decide_eq_decide.2 oO)|(simp_all;done)|(simp;omega)|(simp_all;omega)|skip
   exact SMg
  refine zw rfl (zm rfl (zw rfl (zG rfl rfl (ze rfl rfl (zz (b9 ?_))))));refine ⟨rfl,rfl,j0.g8 rfl ?_ ?_⟩
  ·first|(exact decide_eq_decide.2 oO)|(simp_all;done)|(simp;omega)|(simp_all;omega)|skip
  exact SMg
 refine zy rfl ?_ ?_<;>intro b1<;>try simp only[qs] at b1
 ·have hq:1<n1\/160<C:=b1
  have hD:rdD s p bad=(false,[],0,I,true):=by unfold rdD;rw[hR1];dsimp only;rw[hR2];dsimp only;rw[hR3];dsimp only;rw[if_pos hq]
  obtain ⟨a,c,x,hr,hp,e5,e6,e8⟩:=id hT;refine Sr λ_ g2=>zm rfl (zP rfl (zf rfl ?_));refine WL.bJ rfl rfl rfl x oS rfl λH r h=>?_;simp only[List.set_cons_succ,List.set_cons_zero] at r;have hT:=hT.set x r h;have d:=d.dJ h oT;have j:=j.step h (λy t=>.inl t);refine zz (g2 (Sr λ_ g1=>?_));refine WL.ev (Ev.build (vs:=_) (cs:=[_,_,_]) rfl rfl) rfl ?_;refine zss rfl rfl ao d rfl λm3 l a8=>?_;(try simp only[qt] at l);have j:=j.s1 a8;have hT:=hT.q9 d a8 an;have d:=l;refine zz (g1 ?_);refine zr (k9.qJ rfl (aZ.cell rfl (BK.fJ d rfl oS)) ?_);rw[hD];refine ⟨_,rfl,NU.nil,hT,j⟩
 have hq : ¬(1<n1\/160<C):=b1;refine zkk (g3 (Sr λ_ e0=>zm rfl (zq rfl rfl (zm rfl ?_))));refine WL.ev (Ev.build (vs:=_) (cs:=[_,_,_]) rfl rfl) rfl ?_;refine zAh rfl rfl j λb6 m4 k a9 e3 e1 j=>?_;have hT:=hT.q8 a9;have f4:=zdd d.lt e3;have d:=d.q8 a9;refine zss rfl rfl ao k rfl λm2 G a1=>?_;(try simp only[qt] at G);have j:=j.s1 a1;have d:=d.dJ a1 oT;have hT:=hT.q9 k a1 an;have k:=G;refine zz (e0 (zc λ_ d9=>Sr λ_ d8=>zm rfl (zm rfl (zz (d8 (CW.block ?_))))));refine CW.loop (S:=λg:Nat×Value=>[(0,.pointer (some ⟨z,0,none⟩)),(2,.pointer (some ⟨b2,0,none⟩)),(3,.int .u64 (n1:Int)),(4,.int .i64 ((n2:Int)-4096)),(5,.int .i64 (C:Int)),(6,.pointer (some ⟨b6,0,none⟩)),(30,.int .i64 (C:Int)),(31,.int .i64 (g.1:Int))]) (Inv:=KDy lo z b2 b6 C I (decide ((n1:Int)=1)) R ((n2:Int)-4096) s w) (mu:=λg=>C-g.1) ((0,.slice none 0 0)) ?_ ?_ ?_
 ·exact ⟨Nat.zero_le _,hT,d,k,GR.nil,j⟩
 ·exact SLp
 rintro ⟨i,vi⟩ wr ⟨hi,hT,d,k,o,j⟩;dsimp only at hi hT k o;dsimp only;have l3:z≠b6:=by omega
 have l4:z≠b2:=by omega
 refine Sr λ_ d7=>zL rfl rfl (zz (d7 (zc λ_ d6=>?_)));refine zy rfl ?_ ?_<;>intro i5<;>try simp only[qs] at i5
 ·refine zkk (d6 (zc λ_ d5=>CW.block ?_));refine CW.regionKT (z::vi.ownBlock.toList) 8 9 rfl dZ λk3 c2 T X=>?_
  have j:=j.ta X;have d:=d.q8 X;have k:=k.q8 X;have hT:=hT.q8 X;have b3:=k;have o:=o.q8 X;have l5:=o.nu (rdW_W hB _ _ _) (by rw[a1q];omega);have h2:b6∉z::vi.ownBlock.toList:=λhm=>by
   rcases List.mem_cons.1 hm with e|hm
   · omega
   exact o.notin (.inl oS) hm
  refine wk 0 rfl T (eF rfl) (wk 1 rfl T (λ_ h1=>Ev.load (v:=vi) rfl rfl ((b3.dJ h1 h2).at_ rfl)) (wk 2 rfl T (eM rfl) ?_));refine WK.k7 3 rfl oR hasF83 rfl rfl (ajj lo z _ s _ 4 _ hT hL hB oD) λv m7 h'=>?_;obtain ⟨rfl,hT,Q⟩:=h';have T:=T.step Q (λy t=>.inl (by rw[List.mem_singleton.1 t];exact List.mem_cons_self ..));refine ⟨T,?_⟩;have j:=j.step Q (λy t=>.inl t);have d:=d.dJ Q oT;have k:=k.dJ Q oT;have o:=o.dJ Q (λy t=>.inr (.inl (by rw[List.mem_singleton.1 t];omega)));have h3:=aix hB (rdW s I R i).2.1 (rdW s I R i).2.2 4;have b4:rdW s I R (i+1)=((rdW s I R i).1++[(rdN s (rdW s I R i).2.1 (rdW s I R i).2.2 4).1],(rdN s (rdW s I R i).2.1 (rdW s I R i).2.2 4).2):=by rw[rdW]
  generalize hR4:rdN s (rdW s I R i).2.1 (rdW s I R i).2.2 4=R4 at *;obtain ⟨n4,p4,d4⟩:=R4;dsimp only at hT h3 b4;dsimp only;refine wk 4 rfl T (λ_ _=>Ev.eZ rfl rfl (in_u32 oO)) ?_;refine WK.bhj (m:=1) (cs:=[kZ n4]) 5 rfl oR T oD oD rfl oR rfl λn5 f8 B T=>?_;have e7:=B.at_;have hT:=hT.q8 B.chg;have o:=o.q8 B.chg;have j:=j.trans (Chg.any B.chg);have d:=d.q8 B.chg;have k:=k.q8 B.chg;have e9 : ∀ b∈[b2,b6],b<f8.heap.size:=λb hm=>by
   simp only[List.mem_cons,List.not_mem_nil,or_false] at hm;rcases hm with rfl|rfl
   · exact d.lt
   exact k.lt
  refine WK.growL (f:=kZ) (news:=[n4]) 6 rfl oR (by rfl) (λ_=>rfl) rfl rfl o rfl (RW.one_f e7 rfl) j.size e9 (by simp[a1q];omega) (by simp[a1q];omega) rfl (λw9 hc _=>T.step hc (λy t=>.inl (List.mem_cons_of_mem _ t))) λg0 m6 a7 F=>?_;have hT:=hT.dJ F (λy t=>Nat.le_trans h7 (o.ge y t));have d:=d.dJ F (o.notin (.inl oS));have k:=k.dJ F (o.notin (.inl oS));have j:=GR.frame o F j (Nat.le_refl _);have o:=a7;have l0:=a7.one;have T:=T.step F (λy t=>.inl (List.mem_cons_of_mem _ t));refine wk 7 rfl T (eF rfl) ?_;refine WK.bJ 8 rfl oR oR rfl rfl o1 k oS rfl λm1 G O=>?_;(try simp only[qt] at G);have j:=j.s1 O;have d:=d.dJ O oT;have hT:=hT.q9 k O an;have k:=G;refine WK.done oR (c2 _ _ _ ?_);have o:=o.dJ O (λy t=>.inl (by rw[List.mem_singleton.1 t];simp));refine d5 (zS λ_ c1=>?_);(first|refine zi rfl rfl ?_|refine zo rfl rfl ?_);refine zm rfl (zz (c1 ?_));refine ⟨rfl,(i+1,g0),?_,?_,?_⟩
  ·exact SLp
  ·refine ⟨by dsimp only;omega,?_,d,k,?_,j⟩
   · rw[b4];exact hT
   rw[b4];exact o
  show C-(i+1)<C-i;omega
 have h8:C=i:=by omega
 subst h8;have g9:=a1q s I R C;have f0:=rdW_W hB I R C;generalize hRW:rdW s I R C=RR at *;obtain ⟨ws,q,bd⟩:=RR;dsimp only at hT o g9 f0;have m8:=o.one;have n:=o.nu f0 oO;refine CW.exit ?_;refine d9 (zc λ_ A=>Sr λ_ d0=>zm rfl (zq rfl rfl (zz (d0 ?_))));refine zy rfl ?_ ?_<;>intro b0<;>try simp only[qs] at b0
 ·have h0:C=0:=by have:=b0;omega
  have hD:rdD s p bad=(decide ((n1:Int)=1),ws,((n2:Int)-4096),q,decide (bd=true\/(n1:Int)=1\/(n2:Int)-4096≠0)):=by unfold rdD;rw[hR1];dsimp only;rw[hR2];dsimp only;rw[hR3];dsimp only;rw[if_neg hq,hRW];dsimp only;rw[if_pos h0]
  obtain ⟨a,c,x,hr,hp,e5,e6,e8⟩:=id hT;refine zR λ_ V=>?_;refine zm rfl (zm rfl (zP rfl (zf rfl ?_)));refine WL.ev (Ev.load (v:=.bool bd) rfl rfl (x.at_ rfl)) rfl ?_;refine zm rfl ?_;refine zb ?_ ?_<;>intro i2<;>try simp only[qs] at i2
  ·refine zv rfl (zv rfl (zt rfl rfl (zm rfl (zv rfl (zv rfl (zt rfl rfl (zP rfl (zf rfl ?_))))))));refine WL.bJ rfl rfl rfl x oS rfl λH r h=>?_
   simp only[List.set_cons_succ,List.set_cons_zero] at r;have hT:=hT.set x r h;have d:=d.dJ h oT;have k:=k.dJ h oT;have n:=n.q9 x h (by intro v D;simp only[List.mem_cons,List.not_mem_nil,or_false] at D;rcases D with rfl|rfl<;>rfl);have j:=j.step h (λy t=>.inl t);refine WL.nil (V _ _ _ (A ?_));refine Sr λ_ c9=>zg k rfl ?_;refine zss rfl rfl ao d rfl λm0 l a0=>?_;(try simp only[qt] at l);have j:=j.s1 a0;have hT:=hT.q9 d a0 an;have n:=n.q9 d a0 an;have d:=l;refine zz (c9 ?_);refine zr (k9.qJ rfl (aZ.cell rfl (BK.fJ d rfl oS)) ?_);rw[hD];refine ⟨_,rfl,n,?_,j⟩;refine Eq.mp (congrArg (TpM lo _ z s q) ?_) hT;dsimp only
   first|(simp_all;done)|(refine (decide_eq_true ?_).symm;simp_all;done)|(refine decide_eq_decide.2 ?_;simp_all;done)|(refine decide_eq_decide.2 ?_;simp_all;omega)|(refine (decide_eq_true (.inr (.inl ?_))).symm;omega)|(refine (decide_eq_true (.inr (.inl ?_))).symm;simp_all;omega)
  refine zw rfl (zf rfl (zw rfl (zl k rfl rfl (ze rfl rfl (zm rfl ?_)))));refine zb ?_ ?_<;>intro i1<;>try simp only[qs] at i1
  ·refine zv rfl (zv rfl (zt rfl rfl (zP rfl (zf rfl ?_))));refine WL.bJ rfl rfl rfl x oS rfl λH r h=>?_
   simp only[List.set_cons_succ,List.set_cons_zero] at r;have hT:=hT.set x r h;have d:=d.dJ h oT;have k:=k.dJ h oT;have n:=n.q9 x h (by intro v D;simp only[List.mem_cons,List.not_mem_nil,or_false] at D;rcases D with rfl|rfl<;>rfl);have j:=j.step h (λy t=>.inl t);refine WL.nil (V _ _ _ (A ?_));refine Sr λ_ c8=>zg k rfl ?_;refine zss rfl rfl ao d rfl λl9 l Z=>?_;(try simp only[qt] at l);have j:=j.s1 Z;have hT:=hT.q9 d Z an;have n:=n.q9 d Z an;have d:=l;refine zz (c8 ?_);refine zr (k9.qJ rfl (aZ.cell rfl (BK.fJ d rfl oS)) ?_);rw[hD];refine ⟨_,rfl,n,?_,j⟩;refine Eq.mp (congrArg (TpM lo _ z s q) ?_) hT;dsimp only
   first|(simp_all;done)|(refine (decide_eq_true ?_).symm;simp_all;done)|(refine decide_eq_decide.2 ?_;simp_all;done)|(refine decide_eq_decide.2 ?_;simp_all;omega)|(refine (decide_eq_true (.inr (.inl ?_))).symm;omega)|(refine (decide_eq_true (.inr (.inl ?_))).symm;simp_all;omega)
  refine zw rfl (zm rfl (zw rfl (zN rfl rfl (ze rfl rfl (zP rfl (zf rfl ?_))))));refine WL.bJ rfl rfl rfl x oS rfl λH r h=>?_;simp only[List.set_cons_succ,List.set_cons_zero] at r;have hT:=hT.set x r h;have d:=d.dJ h oT;have k:=k.dJ h oT;have n:=n.q9 x h (by intro v D;simp only[List.mem_cons,List.not_mem_nil,or_false] at D;rcases D with rfl|rfl<;>rfl);have j:=j.step h (λy t=>.inl t);refine WL.nil (V _ _ _ (A ?_));refine Sr λ_ c7=>zg k rfl ?_;refine zss rfl rfl ao d rfl λl8 l Y=>?_;(try simp only[qt] at l);have j:=j.s1 Y;have hT:=hT.q9 d Y an;have n:=n.q9 d Y an;have d:=l;refine zz (c7 ?_);refine zr (k9.qJ rfl (aZ.cell rfl (BK.fJ d rfl oS)) ?_);rw[hD];refine ⟨_,rfl,n,?_,j⟩;refine Eq.mp (congrArg (TpM lo _ z s q) ?_) hT;dsimp only
  first|(simp_all;done)|(refine (decide_eq_true ?_).symm;simp_all;done)|(refine decide_eq_decide.2 ?_;simp_all;done)|(refine decide_eq_decide.2 ?_;simp_all;omega)|(refine (decide_eq_true (.inr (.inl ?_))).symm;omega)|(refine (decide_eq_true (.inr (.inl ?_))).symm;simp_all;omega)
 have h0 : ¬C=0:=by have:=b0;omega
 have hD:rdD s p bad=(decide ((n1:Int)=1),ws,((n2:Int)-4096),q,decide (bd=true\/ws.getD 0 0%2=0\/ws.getD (C-1) 0=0)):=by unfold rdD;rw[hR1];dsimp only;rw[hR2];dsimp only;rw[hR3];dsimp only;rw[if_neg hq,hRW];dsimp only;rw[if_neg h0]
 obtain ⟨a6,c6,rfl,i4,a3⟩:=o.row;obtain ⟨a,c,x,hr,hp,e5,e6,e8⟩:=id hT;refine zR λ_ U=>?_;refine zm rfl (zm rfl (zP rfl (zf rfl ?_)));refine WL.ev (Ev.load (v:=.bool bd) rfl rfl (x.at_ rfl)) rfl ?_;refine zm rfl ?_;refine zb ?_ ?_<;>intro i0<;>try simp only[qs] at i0
 ·refine zv rfl (zv rfl (zv rfl (zv rfl (zv rfl (zv rfl (zt rfl rfl (zm rfl (zv rfl (zv rfl (zv rfl (zv rfl (zv rfl (zv rfl (zv rfl (zt rfl rfl (zP rfl (zf rfl ?_)))))))))))))))));refine WL.bJ rfl rfl rfl x oS rfl λH r h=>?_
  simp only[List.set_cons_succ,List.set_cons_zero] at r;have hT:=hT.set x r h;have d:=d.dJ h oT;have k:=k.dJ h oT;have n:=n.q9 x h (by intro v D;simp only[List.mem_cons,List.not_mem_nil,or_false] at D;rcases D with rfl|rfl<;>rfl);have j:=j.step h (λy t=>.inl t);refine WL.nil (U _ _ _ (A ?_));refine Sr λ_ c5=>zg k rfl ?_;refine zss rfl rfl ao d rfl λH l h=>?_;(try simp only[qt] at l);have j:=j.s1 h;have hT:=hT.q9 d h an;have n:=n.q9 d h an;have d:=l;refine zz (c5 ?_);refine zr (k9.qJ rfl (aZ.cell rfl (BK.fJ d rfl oS)) ?_);rw[hD];refine ⟨_,rfl,n,?_,j⟩;refine Eq.mp (congrArg (TpM lo _ z s q) ?_) hT;dsimp only
  first|(simp_all;done)|(refine (decide_eq_true ?_).symm;simp_all;done)|(refine decide_eq_decide.2 ?_;simp_all;done)|(refine decide_eq_decide.2 ?_;simp_all;omega)|(refine (decide_eq_true (.inr (.inl ?_))).symm;omega)|(refine (decide_eq_true (.inr (.inl ?_))).symm;simp_all;omega)
 refine zw rfl (zf rfl (zw rfl (zl k rfl rfl (zw rfl ?_))));refine WL.ev (Ev.ixR (0) rfl rfl a3 oO oO oT) rfl ?_;refine zw rfl ?_;refine WL.ev (Ev.load rfl rfl (a3.u32 oF)) rfl ?_;refine zw rfl ?_;refine WL.ev (Ev.dhx (b:=2) rfl rfl oO) rfl ?_;refine zw rfl (zq rfl rfl (ze rfl rfl (zm rfl ?_)));refine zb ?_ ?_<;>intro h9<;>try simp only[qs] at h9
 ·refine zv rfl (zv rfl (zv rfl (zv rfl (zv rfl (zv rfl (zv rfl (zt rfl rfl (zP rfl (zf rfl ?_)))))))));refine WL.bJ rfl rfl rfl x oS rfl λH r h=>?_
  simp only[List.set_cons_succ,List.set_cons_zero] at r;have hT:=hT.set x r h;have d:=d.dJ h oT;have k:=k.dJ h oT;have n:=n.q9 x h (by intro v D;simp only[List.mem_cons,List.not_mem_nil,or_false] at D;rcases D with rfl|rfl<;>rfl);have j:=j.step h (λy t=>.inl t);refine WL.nil (U _ _ _ (A ?_));refine Sr λ_ c4=>zg k rfl ?_;refine zss rfl rfl ao d rfl λi8 l M=>?_;(try simp only[qt] at l);have j:=j.s1 M;have hT:=hT.q9 d M an;have n:=n.q9 d M an;have d:=l;refine zz (c4 ?_);refine zr (k9.qJ rfl (aZ.cell rfl (BK.fJ d rfl oS)) ?_);rw[hD];refine ⟨_,rfl,n,?_,j⟩;refine Eq.mp (congrArg (TpM lo _ z s q) ?_) hT;dsimp only
  first|(simp_all;done)|(refine (decide_eq_true ?_).symm;simp_all;done)|(refine decide_eq_decide.2 ?_;simp_all;done)|(refine decide_eq_decide.2 ?_;simp_all;omega)|(refine (decide_eq_true (.inr (.inl ?_))).symm;omega)|(refine (decide_eq_true (.inr (.inl ?_))).symm;simp_all;omega)
 refine zw rfl (zf rfl (zw rfl (zl k rfl rfl (zw rfl (zm rfl (zw rfl ?_))))))
 first|refine WL.ev (Ev.dX rfl rfl oO) rfl ?_|refine WL.ev (Ev.sub rfl rfl) rfl ?_
 refine zw rfl ?_;refine WL.ev (Ev.ixR ((C-1)) rfl rfl a3 oO oO oT) rfl ?_;refine zw rfl ?_;refine WL.ev (Ev.load rfl rfl (a3.u32 oF)) rfl ?_;refine zw rfl (zq rfl rfl (ze rfl rfl (zP rfl (zf rfl ?_))));refine WL.bJ rfl rfl rfl x oS rfl λH r h=>?_;simp only[List.set_cons_succ,List.set_cons_zero] at r;have hT:=hT.set x r h;have d:=d.dJ h oT;have k:=k.dJ h oT;have n:=n.q9 x h (by intro v D;simp only[List.mem_cons,List.not_mem_nil,or_false] at D;rcases D with rfl|rfl<;>rfl);have j:=j.step h (λy t=>.inl t);refine WL.nil (U _ _ _ (A ?_));refine Sr λ_ c3=>zg k rfl ?_;refine zss rfl rfl ao d rfl λi7 l J=>?_;(try simp only[qt] at l);have j:=j.s1 J;have hT:=hT.q9 d J an;have n:=n.q9 d J an;have d:=l;refine zz (c3 ?_);refine zr (k9.qJ rfl (aZ.cell rfl (BK.fJ d rfl oS)) ?_);rw[hD];refine ⟨_,rfl,n,?_,j⟩;refine Eq.mp (congrArg (TpM lo _ z s q) ?_) hT;dsimp only
 first|(simp_all;done)|(refine (decide_eq_true ?_).symm;simp_all;done)|(refine decide_eq_decide.2 ?_;simp_all;done)|(refine decide_eq_decide.2 ?_;simp_all;omega)|(refine (decide_eq_true (.inr (.inl ?_))).symm;omega)|(refine (decide_eq_true (.inr (.inl ?_))).symm;simp_all;omega)
end
section
open Go Sx Wd
set_option exponentiation.threshold 9000
def ngB(x:Nat):Nat:=if x<9223372036854775808 then x+9223372036854775808 else x-9223372036854775808
theorem negFloat_eq{x:Nat}(h:x<18446744073709551616):Op.negFloat .f64 x=ngB x:=by
  unfold ngB
  by_cases q:x<9223372036854775808
  · rw[if_pos q];exact negF q
  · rw[if_neg q]
    have e:=negF (x:=x-9223372036854775808) oO
    rw[show x-9223372036854775808+9223372036854775808=x by omega] at e
    have a:(x-9223372036854775808) ^^^ 2^63=x:=e
    show x ^^^ 2^63=_
    calc x ^^^ 2^63=((x-9223372036854775808) ^^^ 2^63) ^^^ 2^63:=by rw[a]
      _=x-9223372036854775808:=by rw[Nat.xor_assoc,Nat.xor_self,Nat.xor_zero]
end
section
open Go Sx Wd Fl
def lX(x:Nat)(s:Int):Prop:=if s=0 then x%9223372036854775808=9218868437227405312 else if s<0 then x=18442240474082181120 else x=9218868437227405312
instance (x:Nat)(s:Int):Decidable (lX x s):=by unfold lX;exact inferInstance
theorem read_max:Ieee.double.read 9218868437227405311 = .number false 9007199254740991 971:=by decide +kernel
theorem cux{x:Nat}(b:x<18446744073709551616):(FloatKind.f64.format.order x 9218868437227405311==some .gt)=decide (x=9218868437227405312):=by
  by_cases h:(g6 x).cls<=2
  · have f:=fin_mod h
    have a : ¬x=9218868437227405312:=by omega
    rw[order_fin h (by decide +kernel),fcmp_gt,decide_eq_false a]
    refine decide_eq_false ?_
    rw[fv_pos (r:=9218868437227405311) oD,fvI_nz h b]
    have d:=Nat.mul_le_mul_right (2^1074) (nz_le (show x%9223372036854775808<=9218868437227405311 by omega))
    split<;>omega
  · have f : ¬x%9223372036854775808<9218868437227405312:=λz=>h ((cpx x).2 z)
    show ((Ieee.double.read x).order (Ieee.double.read 9218868437227405311)==some .gt)=_
    rw[read_max]
    unfold Ieee.Format.read
    simp only[bhq,buq,buj]
    split
    · omega
    · split
      · simp only[Ieee.Datum.order]
        by_cases hs:x<9223372036854775808
        · have e:(x/9223372036854775808%2==1)=false:=by simp;omega
          rw[e,decide_eq_true oO];rfl
        · have e:(x/9223372036854775808%2==1)=true:=by simp;omega
          rw[e,decide_eq_false oO];rfl
      · rw[decide_eq_false oO];rfl
theorem and_abs(x:Nat):x&&& (2^IntKind.u64.bits-1-9223372036854775808)=x%9223372036854775808:=Nat.and_two_pow_sub_one_eq_mod x 63
theorem ngB_lt2{x:Nat}(h:x<18446744073709551616):ngB x<18446744073709551616:=by unfold ngB;split<;>omega
theorem fAbs_spec(x:Nat)(w:World)(f:x<18446744073709551616):Ret Tryz.prog 254 [.float .f64 x] w λu w'=>u = .float .f64 (x%9223372036854775808)/\w=w':=by
 refine zE1 Tryz.func254 rfl ?_;refine Sr λ_ e=>za rfl (zz (e (Sr λ_ d=>zm rfl ?_)));refine WL.ev (Ev.ext rfl (ext48 _ _)) rfl ?_;refine WL.ev (Ev.andNotU (a:=x) (b:=9223372036854775808) rfl rfl rfl (by simp only[IntKind.bits];omega) oD) rfl ?_;rw[and_abs];refine WL.ev (Ev.ext rfl (ext82 _ _)) rfl ?_;refine za rfl (zz (d ?_));refine zr (zr1 rfl rfl ?_);exact ⟨congrArg (Value.float .f64) (by first|rfl|omega),rfl⟩
theorem fSign_spec(x:Nat)(w:World)(d:x<18446744073709551616):Ret Tryz.prog 222 [.float .f64 x] w λu w'=>u = .bool (decide (9223372036854775808<=x))/\w=w':=by
 refine zE1 Tryz.func222 rfl ?_;refine Sr λ_ b=>za rfl (zz (b (Sr λ_ a=>zm rfl ?_)));refine WL.ev (Ev.ext rfl (ext48 _ _)) rfl ?_;refine WL.ev (Ev.conv rfl rfl) rfl ?_;rw[wrap_i64m];refine zL rfl rfl (za rfl (zz (a ?_)));refine zr (zr1 rfl rfl ?_);exact ⟨congrArg Value.bool (decide_eq_decide.2 oO),rfl⟩
theorem cwq(x:Nat)(s:Int)(w:World)(h:x<18446744073709551616)(r:s = -1\/s=0\/s=1):Ret Tryz.prog 221 [.float .f64 x,.int .i64 s] w λu w'=>u = .bool (decide (lX x s))/\w=w':=by
 refine zE2 Tryz.func221 rfl ?_;refine Sr λ_ n=>za rfl (zz (n (zc λ_ a=>Sr λ_ m=>zm rfl (zq rfl rfl (zz (m ?_))))));refine zy rfl ?_ ?_<;>intro d<;>try simp only[qs] at d
 ·have i:s=0:=d
  refine zR λ_ j=>?_;refine zm rfl ?_;refine WL.call hasF254 rfl rfl (fAbs_spec x _ h) λv q p=>?_;obtain ⟨rfl,rfl⟩:=p;refine za rfl ?_;refine WL.nil (j _ _ _ (a ?_));refine Sr λ_ l=>zm rfl ?_;refine WL.ev (Ev.fgtr rfl rfl) rfl ?_;refine za rfl (zz (l ?_));refine zr (zr1 rfl rfl ?_);refine ⟨congrArg Value.bool ((cux oO).trans (decide_eq_decide.2 ?_)),rfl⟩;unfold lX;rw[if_pos i]
 have i : ¬s=0:=d;refine Sr λ_ k=>zm rfl (zL rfl rfl (zz (k ?_)));refine zy rfl ?_ ?_<;>intro b<;>try simp only[qs] at b
 ·have o:s<0:=b
  refine zR λ_ e=>?_;refine zm rfl ?_;refine WL.ev (Ev.fneg rfl) rfl ?_;rw[negFloat_eq h];refine za rfl ?_;refine WL.nil (e _ _ _ (a ?_));refine Sr λ_ g=>zm rfl ?_;refine WL.ev (Ev.fgtr rfl rfl) rfl ?_;refine za rfl (zz (g ?_));refine zr (zr1 rfl rfl ?_);refine ⟨congrArg Value.bool ((cux (ngB_lt2 h)).trans (decide_eq_decide.2 ?_)),rfl⟩;unfold lX ngB;rw[if_neg i,if_pos o];split<;>omega
 have o : ¬s<0:=by have:=b;omega
 refine zkk (a (Sr λ_ f=>zm rfl ?_));refine WL.ev (Ev.fgtr rfl rfl) rfl ?_;refine za rfl (zz (f ?_));refine zr (zr1 rfl rfl ?_);refine ⟨congrArg Value.bool ((cux h).trans (decide_eq_decide.2 ?_)),rfl⟩;unfold lX;rw[if_neg i,if_neg o]
def arx(x:Nat)(side:Int)(there beyond noughts:Nat)(S:Sh):Prop:=
  if 0<there then lX x side else if S.fin=0 then 0<beyond/\lX x (-side) else if lX x 0 then False else if 0<S.pln then True else x%9223372036854775808=0/\(9223372036854775808<=x↔(side<0↔0<noughts))
instance (x:Nat)(side:Int)(a b c:Nat)(S:Sh):Decidable (arx x side a b c S):=by unfold arx;exact inferInstance
def vX(S:Sh):Prop:=¬(isNaN S.lo=true\/isNaN S.hi=true\/key S.hi<key S.lo)/\arx S.lo (-1) S.s.dn S.s.up S.s.mi S/\arx S.hi 1 S.s.up S.s.dn S.s.pl S
instance (S:Sh):Decidable (vX S):=by unfold vX;exact inferInstance
theorem LASTEQ{a b c d:Prop}{x:Nat}[Decidable a][Decidable b][Decidable c][Decidable d](e:c↔d)(h:x%9223372036854775808=0):(decide a==(decide b==decide c))=decide (x%9223372036854775808=0/\(a↔(b↔d))):=by
  rw[Bool.eq_iff_iff]
  by_cases ha:a<;>by_cases hb:b<;>by_cases hd:d<;>simp[ha,hb,hd,e,h]
theorem BEYT{a c:Prop}[Decidable a][Decidable c](h:a):decide c=decide (a/\c):=by simp[h]
theorem BEYF{a c:Prop}[Decidable a][Decidable c](h : ¬a):false=decide (a/\c):=by simp[h]
theorem c9q{a b:Prop}[Decidable a][Decidable b]:(decide a==decide b)=decide (a↔b):=by
  by_cases ha:a<;>by_cases hb:b<;>simp[ha,hb]
theorem ddx(b x g d a:Nat)(f:Int)(S:Sh)(w:World)(Y:ShM 91 w b S)(D:S.s.le 1099511627776)(G:x<18446744073709551616)(X:f = -1\/f=1):Ret Tryz.prog 152 [.float .f64 x,.int .i64 f,.int .i64 (g:Int),.int .i64 (d:Int),.int .i64 (a:Int),.pointer (some ⟨b,0,none⟩)] w λu w'=>u = .bool (decide (arx x f g d a S))/\Chg [] w w':=by
 have j:=Y;have h:=crf w;refine Ret.enter Tryz.func152 rfl rfl ?_;simp only[b2j,Nat.zero_add,Nat.reduceAdd];refine Sr λ_ R=>za rfl (zz (R (zc λ_ Q=>CW.block (Sr λ_ O=>zm rfl (zG rfl rfl (za rfl (zz (O ?_))))))));refine zy rfl ?_ ?_<;>intro q<;>try simp only[qs] at q
 ·have m:0<g:=by have:=q;omega
  refine Sr λ_ M=>zm rfl (zm rfl ?_);refine WL.call hasF221 rfl rfl (cwq x f _ G oO) λv w1 i=>?_;obtain ⟨rfl,rfl⟩:=i;refine za rfl (zz (M ?_));refine zr (zr1 rfl rfl ?_);refine ⟨congrArg Value.bool (decide_eq_decide.2 ?_),h⟩
  show _↔arx x f g d a S
  unfold arx;rw[if_pos m]
 have m : ¬0<g:=by have:=q;omega
 refine Sr λ_ J=>zm rfl ?_;refine WL.call hasF78 rfl rfl (akx b S _ j D) λv w2 i=>?_;obtain ⟨rfl,H⟩:=i;have h:=h.ta H;have j:=j.q8 H;refine zq rfl rfl (za rfl (zz (J ?_)));refine zy rfl ?_ ?_<;>intro p<;>try simp only[qs] at p
 ·have r:S.fin=0:=p
  refine Sr λ_ l=>zm rfl (zG rfl rfl (zm rfl ?_));refine zb ?_ ?_<;>intro V<;>try simp only[qs] at V
  ·refine zw rfl (zm rfl (zw rfl (zm rfl (zw rfl ?_))));refine WL.ev (Ev.bpx rfl oO) rfl ?_
   refine zw rfl ?_;refine WL.call hasF221 rfl rfl (cwq x (-f) _ G oO) λv w3 i=>?_;obtain ⟨rfl,rfl⟩:=i;refine zt rfl rfl (za rfl (zz (l ?_)));refine zr (zr1 rfl rfl ?_);refine ⟨congrArg Value.bool ?_,h⟩;have e:(arx x f g d a S)↔(0<d/\lX x (-f)):=by unfold arx;rw[if_neg m,if_pos r]
   rw[decide_eq_decide.2 e]
   first|exact BEYT oO|exact BEYF oO
  refine zv rfl (zv rfl (zv rfl (zv rfl (ze rfl rfl (za rfl (zz (l ?_)))))));refine zr (zr1 rfl rfl ?_);refine ⟨congrArg Value.bool ?_,h⟩;have e:(arx x f g d a S)↔(0<d/\lX x (-f)):=by unfold arx;rw[if_neg m,if_pos r]
  rw[decide_eq_decide.2 e]
  first|exact BEYT oO|exact BEYF oO
 have r : ¬S.fin=0:=p;refine Sr λ_ C=>zm rfl ?_;refine WL.call hasF221 rfl rfl (cwq x 0 _ G oO) λv w4 i=>?_;obtain ⟨rfl,rfl⟩:=i;refine za rfl (zz (C ?_));refine zy rfl ?_ ?_<;>intro o<;>try simp only[qs] at o
 ·have F:lX x 0:=by simpa using o
  refine Sr λ_ B=>za rfl (zz (B ?_));refine zr (zr1 rfl rfl ?_);refine ⟨congrArg Value.bool (decide_eq_false ?_).symm,h⟩;unfold arx;rw[if_neg m,if_neg r,if_pos F];exact λz=>z
 have F : ¬lX x 0:=by simpa using o
 refine Sr λ_ A=>zm rfl ?_;refine WL.call hasF149 rfl rfl (dmx b S _ j D) λv w5 i=>?_;obtain ⟨rfl,H⟩:=i;have h:=h.ta H;refine zG rfl rfl (za rfl (zz (A ?_)));refine zy rfl ?_ ?_<;>intro n<;>try simp only[qs] at n
 ·have I:0<S.pln:=by have:=n;omega
  refine Sr λ_ y=>za rfl (zz (y ?_));refine zr (zr1 rfl rfl ?_);refine ⟨congrArg Value.bool (decide_eq_true ?_).symm,h⟩;unfold arx;rw[if_neg m,if_neg r,if_neg F,if_pos I]
  trivial
 have I : ¬0<S.pln:=by have:=n;omega
 refine zkk (Q (Sr λ_ t=>zm rfl (zL rfl rfl (zm rfl (zG rfl rfl ?_)))));refine WL.ev (Ev.bdx rfl rfl) rfl ?_;refine za rfl (zz (t (Sr λ_ k=>zm rfl ?_)));refine WL.ev (Ev.feql rfl rfl) rfl ?_;rw[order_zero];refine zm rfl ?_;refine zb ?_ ?_<;>intro U<;>try simp only[qs] at U
 ·refine zw rfl (zm rfl (zw rfl ?_));refine WL.call hasF222 rfl rfl (fSign_spec x _ G) λv Z i=>?_
  obtain ⟨rfl,rfl⟩:=i;refine zw rfl (zm rfl (zw rfl ?_));refine WL.ev (Ev.bdx rfl rfl) rfl ?_;refine zt rfl rfl (za rfl (zz (k ?_)));refine zr (zr1 rfl rfl ?_);refine ⟨congrArg Value.bool ?_,h⟩;have e:(arx x f g d a S)↔(x%9223372036854775808=0/\(9223372036854775808<=x↔(f<0↔0<a))):=by unfold arx;rw[if_neg m,if_neg r,if_neg F,if_neg I]
  rw[decide_eq_decide.2 e];have T:(0<(a:Int))↔0<a:=by omega
  first|(exact LASTEQ T oA)  | (rw[c9q,c9q];refine decide_eq_decide.2 ?_;constructor<;>intro z<;>simp_all<;>omega)|(symm;refine decide_eq_false ?_;simp_all;done)
 refine zv rfl (zv rfl (zv rfl (zv rfl (ze rfl rfl (za rfl (zz (k ?_)))))));refine zr (zr1 rfl rfl ?_);refine ⟨congrArg Value.bool ?_,h⟩;have e:(arx x f g d a S)↔(x%9223372036854775808=0/\(9223372036854775808<=x↔(f<0↔0<a))):=by unfold arx;rw[if_neg m,if_neg r,if_neg F,if_neg I]
 rw[decide_eq_decide.2 e];have T:(0<(a:Int))↔0<a:=by omega
 first|(exact LASTEQ T oA)  | (rw[c9q,c9q];refine decide_eq_decide.2 ?_;constructor<;>intro z<;>simp_all<;>omega)|(symm;refine decide_eq_false ?_;simp_all;done)
theorem ends_spec21(b:Nat)(S:Sh)(w:World)(a:ShM 91 w b S)(J:S.s.le 1099511627776)(C:S.lo<18446744073709551616)(D:S.hi<18446744073709551616):Ret Tryz.prog 85 [.pointer (some ⟨b,0,none⟩)] w λu w'=>u = .bool (decide (vX S))/\Chg [] w w':=by
 obtain ⟨M,O,k,h,i⟩:=a;obtain ⟨B,A,y,x,t,r⟩:=J;have f:=crf w;refine zE1 Tryz.func85 rfl ?_;refine Sr λ_ H=>za rfl (zz (H (zc λ_ G=>?_)));refine CW.azx 26 (decide (isNaN S.lo=true\/isNaN S.hi=true\/key S.hi<key S.lo)) ?_ ?_
 ·intro g;refine CW.cQ 24 rfl dZ λR n a j=>?_;have g:=g.ta j;have k:=k.q8 j;have e:=k;refine wh 0 rfl a (eM rfl) (wh 1 rfl a (eP rfl) (wh 2 rfl a (eF rfl) (wh 3 rfl a (λ_ d=>Ev.load rfl rfl ((e.q8 d).at_ rfl)) ?_)));refine WH.k7 4 rfl oR hasF151 rfl rfl (bwx S.lo _) λv Z l=>?_;obtain ⟨rfl,rfl⟩:=l;refine ⟨a,?_⟩;cases hq7:isNaN S.lo
  ·refine wh 5 rfl a (eM rfl) (wg 6 rfl rfl rfl rfl rfl a (eM rfl) (wg 7 rfl rfl rfl rfl rfl a (eP rfl) (wg 8 rfl rfl rfl rfl rfl a (eF rfl) (wg 9 rfl rfl rfl rfl rfl a (λ_ d=>Ev.load rfl rfl ((e.q8 d).at_ rfl)) ?_))));refine WH.rX 10 rfl oR rfl rfl rfl rfl hasF151 rfl rfl (bwx S.hi _) λv Y l=>?_;obtain ⟨rfl,rfl⟩:=l;refine ⟨a,?_⟩;cases hq13:isNaN S.hi
   ·refine wh 11 rfl a (λ_ _=>Ev.aox rfl rfl rfl) (wh 12 rfl a (eM rfl) (wg 13 rfl rfl rfl rfl rfl a (eM rfl) (wg 14 rfl rfl rfl rfl rfl a (eP rfl) (wg 15 rfl rfl rfl rfl rfl a (eF rfl) (wg 16 rfl rfl rfl rfl rfl a (λ_ d=>Ev.load rfl rfl ((e.q8 d).at_ rfl)) (wg 17 rfl rfl rfl rfl rfl a (eM rfl) (wg 18 rfl rfl rfl rfl rfl a (eP rfl) (wg 19 rfl rfl rfl rfl rfl a (eF rfl) (wg 20 rfl rfl rfl rfl rfl a (λ_ d=>Ev.load rfl rfl ((e.q8 d).at_ rfl)) ?_)))))))));refine WH.rX 21 rfl oR rfl rfl rfl rfl hasF97 rfl rfl (afj S.lo S.hi C D _) λv X l=>?_;obtain ⟨rfl,rfl⟩:=l;refine ⟨a,?_⟩;refine wg 22 rfl rfl rfl rfl rfl a (λ_ _=>Ev.gtr rfl rfl) (wh 23 rfl a (λ_ _=>Ev.aox rfl rfl rfl) ?_);refine WH.done oR (n _ _ _ ?_);refine ⟨rfl,g,j0.g8 rfl ?_ ?_⟩
    ·first|(simp_all;done)|(refine decide_eq_decide.2 ?_;simp_all [afx];done)
    exact SMg
   refine wh 11 rfl a (λ_ _=>Ev.aox rfl rfl rfl) (wh 12 rfl a (eM rfl) (wp 13 rfl rfl rfl rfl rfl a (wp 14 rfl rfl rfl rfl rfl a (wp 15 rfl rfl rfl rfl rfl a (wp 16 rfl rfl rfl rfl rfl a (wp 17 rfl rfl rfl rfl rfl a (wp 18 rfl rfl rfl rfl rfl a (wp 19 rfl rfl rfl rfl rfl a (wp 20 rfl rfl rfl rfl rfl a ?_)))))))));refine WH.a0x 21 rfl oR rfl rfl rfl rfl a rfl ?_;refine wp 22 rfl rfl rfl rfl rfl a (wh 23 rfl a (λ_ _=>Ev.aeq rfl rfl rfl) ?_);refine WH.done oR (n _ _ _ ?_);refine ⟨rfl,g,j0.g8 rfl ?_ ?_⟩
   ·first|(simp_all;done)|(refine decide_eq_decide.2 ?_;simp_all [afx];done)
   exact SMg
  refine wh 5 rfl a (eM rfl) (wp 6 rfl rfl rfl rfl rfl a (wp 7 rfl rfl rfl rfl rfl a (wp 8 rfl rfl rfl rfl rfl a (wp 9 rfl rfl rfl rfl rfl a ?_))));refine WH.a0x 10 rfl oR rfl rfl rfl rfl a rfl ?_;refine wh 11 rfl a (λ_ _=>Ev.aeq rfl rfl rfl) (wh 12 rfl a (eM rfl) (wp 13 rfl rfl rfl rfl rfl a (wp 14 rfl rfl rfl rfl rfl a (wp 15 rfl rfl rfl rfl rfl a (wp 16 rfl rfl rfl rfl rfl a (wp 17 rfl rfl rfl rfl rfl a (wp 18 rfl rfl rfl rfl rfl a (wp 19 rfl rfl rfl rfl rfl a (wp 20 rfl rfl rfl rfl rfl a ?_)))))))));refine WH.a0x 21 rfl oR rfl rfl rfl rfl a rfl ?_;refine wp 22 rfl rfl rfl rfl rfl a (wh 23 rfl a (λ_ _=>Ev.aeq rfl rfl rfl) ?_);refine WH.done oR (n _ _ _ ?_);refine ⟨rfl,g,j0.g8 rfl ?_ ?_⟩
  ·first|(simp_all;done)|(refine decide_eq_decide.2 ?_;simp_all [afx];done)
  exact SMg
 intro T g;have f:=f.ta g;have k:=k.q8 g;have h:=h.q8 g;have i:=i.q8 g;refine zy rfl ?_ ?_<;>intro o<;>try simp only[qs] at o
 ·have I:isNaN S.lo=true\/isNaN S.hi=true\/key S.hi<key S.lo:=by simpa using o
  refine Sr λ_ F=>za rfl (zz (F ?_));refine zr (zr1 rfl rfl ?_);refine ⟨congrArg Value.bool (decide_eq_false λz=>z.1 I).symm,f⟩
 have I : ¬(isNaN S.lo=true\/isNaN S.hi=true\/key S.hi<key S.lo):=by simpa using o
 refine zkk (G (zc λ_ q=>?_));refine CW.cQ 45 rfl dZ λQ p a j=>?_;have f:=f.ta j;have k:=k.q8 j;have h:=h.q8 j;have i:=i.q8 j;have e:=k;refine wh 0 rfl a (eM rfl) (wh 1 rfl a (eP rfl) (wh 2 rfl a (eF rfl) (wh 3 rfl a (λ_ d=>Ev.load rfl rfl ((e.q8 d).at_ rfl)) (wh 4 rfl a (eM rfl) (wh 5 rfl a (eP rfl) (wh 6 rfl a (eF rfl) (wh 7 rfl a (eF rfl) (wh 8 rfl a (λ_ d=>Ev.load rfl rfl ((e.q8 d).at_ rfl)) (wh 9 rfl a (eM rfl) (wh 10 rfl a (eP rfl) (wh 11 rfl a (eF rfl) (wh 12 rfl a (eF rfl) (wh 13 rfl a (λ_ d=>Ev.load rfl rfl ((e.q8 d).at_ rfl)) (wh 14 rfl a (eM rfl) (wh 15 rfl a (eP rfl) (wh 16 rfl a (eF rfl) (wh 17 rfl a (eF rfl) (wh 18 rfl a (λ_ d=>Ev.load rfl rfl ((e.q8 d).at_ rfl)) (wh 19 rfl a (eM rfl) ?_)))))))))))))))))));refine WH.k7 20 rfl oR hasF152 rfl rfl (ddx b S.lo S.s.dn S.s.up S.s.mi (-1) S _ ⟨M,O,k,h,i⟩ ⟨B,A,y,x,t,r⟩ C oO) λv V l=>?_;obtain ⟨rfl,m⟩:=l;have f:=f.ta m;have k:=k.q8 m;have h:=h.q8 m;have i:=i.q8 m;have a:=a.trans m;refine ⟨a,?_⟩
 by_cases hq47:arx S.lo (-1) S.s.dn S.s.up S.s.mi S
 ·rw[decide_eq_true hq47];refine wh 21 rfl a (eM rfl) (wg 22 rfl rfl rfl rfl rfl a (eM rfl) (wg 23 rfl rfl rfl rfl rfl a (eP rfl) (wg 24 rfl rfl rfl rfl rfl a (eF rfl) (wg 25 rfl rfl rfl rfl rfl a (λ_ d=>Ev.load rfl rfl ((e.q8 d).at_ rfl)) (wg 26 rfl rfl rfl rfl rfl a (eM rfl) (wg 27 rfl rfl rfl rfl rfl a (eP rfl) (wg 28 rfl rfl rfl rfl rfl a (eF rfl) (wg 29 rfl rfl rfl rfl rfl a (eF rfl) (wg 30 rfl rfl rfl rfl rfl a (λ_ d=>Ev.load rfl rfl ((e.q8 d).at_ rfl)) (wg 31 rfl rfl rfl rfl rfl a (eM rfl) (wg 32 rfl rfl rfl rfl rfl a (eP rfl) (wg 33 rfl rfl rfl rfl rfl a (eF rfl) (wg 34 rfl rfl rfl rfl rfl a (eF rfl) (wg 35 rfl rfl rfl rfl rfl a (λ_ d=>Ev.load rfl rfl ((e.q8 d).at_ rfl)) (wg 36 rfl rfl rfl rfl rfl a (eM rfl) (wg 37 rfl rfl rfl rfl rfl a (eP rfl) (wg 38 rfl rfl rfl rfl rfl a (eF rfl) (wg 39 rfl rfl rfl rfl rfl a (eF rfl) (wg 40 rfl rfl rfl rfl rfl a (λ_ d=>Ev.load rfl rfl ((e.q8 d).at_ rfl)) (wg 41 rfl rfl rfl rfl rfl a (eM rfl) ?_))))))))))))))))))));refine WH.rX 42 rfl oR rfl rfl rfl rfl hasF152 rfl rfl (ddx b S.hi S.s.up S.s.dn S.s.pl 1 S _ ⟨M,O,k,h,i⟩ ⟨B,A,y,x,t,r⟩ D oO) λv U l=>?_;obtain ⟨rfl,m⟩:=l;have f:=f.ta m;have a:=a.trans m;refine ⟨a,?_⟩;refine wh 43 rfl a (λ_ _=>Ev.aeq rfl rfl rfl) (wh 44 rfl a (eA rfl) ?_);refine WH.done oR (p _ _ _ ?_);refine q ?_;refine zr (zr1 rfl rfl ?_);refine ⟨congrArg Value.bool (decide_eq_decide.2 ⟨λz=>⟨I,hq47,z⟩,λz=>z.2.2⟩),f⟩
 rw[decide_eq_false hq47];refine wh 21 rfl a (eM rfl) (wp 22 rfl rfl rfl rfl rfl a (wp 23 rfl rfl rfl rfl rfl a (wp 24 rfl rfl rfl rfl rfl a (wp 25 rfl rfl rfl rfl rfl a (wp 26 rfl rfl rfl rfl rfl a (wp 27 rfl rfl rfl rfl rfl a (wp 28 rfl rfl rfl rfl rfl a (wp 29 rfl rfl rfl rfl rfl a (wp 30 rfl rfl rfl rfl rfl a (wp 31 rfl rfl rfl rfl rfl a (wp 32 rfl rfl rfl rfl rfl a (wp 33 rfl rfl rfl rfl rfl a (wp 34 rfl rfl rfl rfl rfl a (wp 35 rfl rfl rfl rfl rfl a (wp 36 rfl rfl rfl rfl rfl a (wp 37 rfl rfl rfl rfl rfl a (wp 38 rfl rfl rfl rfl rfl a (wp 39 rfl rfl rfl rfl rfl a (wp 40 rfl rfl rfl rfl rfl a (wp 41 rfl rfl rfl rfl rfl a ?_))))))))))))))))))));refine WH.a0x 42 rfl oR rfl rfl rfl rfl a rfl ?_;refine wh 43 rfl a (λ_ _=>Ev.aox rfl rfl rfl) (wh 44 rfl a (eA rfl) ?_);refine WH.done oR (p _ _ _ ?_);refine q ?_;refine zr (zr1 rfl rfl ?_);refine ⟨congrArg Value.bool (decide_eq_false λz=>hq47 z.2.1).symm,f⟩
def cmpY(x y:Dy):Int:=bqq x.neg x.m x.e y.neg y.m y.e
def ayq:Dy:=⟨false,1,2048⟩
theorem topD_wd:wd ayq.m=[1]:=by show wd 1=[1];decide +kernel
theorem topD_ok:ayq.ok:=⟨λh=>absurd h oD,λ_=>by decide,by rw[topD_wd];decide,by decide⟩
def sQ(S:Sh):Prop:=
  if S.pln=0 then S.V.m=0/\S.Q.m=0 else
    ¬(sgD S.Q.neg S.Q.m<=0\/S.Q.e < -2148\/(S.V.m≠0/\S.V.e < -1074))/\cmpY S.Q ((gX (cJ S.pln) ayq).getD Dy.zero)<0/\cmpY ((gX S.V S.V).getD Dy.zero) ((gX (cJ S.pln) S.Q).getD Dy.zero)<=0
instance (S:Sh):Decidable (sQ S):=by unfold sQ;exact inferInstance
theorem asx{n:Nat}: (wd n).length=0↔n=0:=by
  constructor
  · intro h
    have:=(aX (n:=n) (k:=0)).1 oO
    simpa using this
  · rintro rfl;rw[fX];rfl
theorem DR.blx{w:World}{u:Value}{x:Option Dy}(h:DR w u x): ∃ (r:Value) (k:Int),u = .tuple [.agg [.bool (x.getD Dy.zero).neg,r,.int .i64 (x.getD Dy.zero).e].toArray,.int .i64 k].toArray/\NU w r (wd (x.getD Dy.zero).m):=by
  obtain ⟨r,k,b,a,_⟩:=h.bkj
  exact ⟨r,k,b,a⟩
theorem le_mil{d:Dy}(h:d.ok):(wd d.m).length<=1000000:=by have:=h.len;omega
theorem e_mil{d:Dy}(h:d.ok): -1000000000000<=d.e/\d.e<=1000000000000:=by have:=h.e;omega
theorem sums_spec21(b:Nat)(S:Sh)(w:World)(o:ShM 91 w b S)(l2:S.s.le 1099511627776)(X:S.V.ok)(a1:S.Q.ok)(hg:GW w):Ret Tryz.prog 84 [.pointer (some ⟨b,0,none⟩)] w λu w'=>u = .bool (decide (sQ S))/\Chg [] w w':=by
 obtain ⟨rv,rq,r,g,f⟩:=o;obtain ⟨k3,k2,k1,i9,i8,i7⟩:=l2;have a:=crf w;obtain ⟨⟨av,cv,i6,o3,n6⟩,-,n9⟩:=id g;obtain ⟨⟨aq,cq,k4,o4,n7⟩,-,o0⟩:=id f;subst i6 k4;have b8:=hg;have n4:=asx (n:=S.V.m);have n5:=asx (n:=S.Q.m);refine zE1 Tryz.func84 rfl ?_;refine Sr λ_ i5=>za rfl (zz (i5 (Sr λ_ i4=>zm rfl ?_)));refine WL.call hasF149 rfl rfl (dmx b S _ ⟨_,_,r,g,f⟩ ⟨k3,k2,k1,i9,i8,i7⟩) λv w1 h'=>?_;obtain ⟨rfl,x⟩:=h';have k5 : -9223372036854775808<=S.pln/\S.pln<=9223372036854775807:=by unfold Sh.pln Sh.fin;omega
 have a0:(cJ S.pln).ok:=xZ (by unfold Sh.pln Sh.fin;omega);have c6:=g.one;have n8:=f.one;have a:=a.ta x;have r:=r.q8 x;have g:=g.q8 x;have f:=f.q8 x;refine za rfl (zz (i4 (zc λ_ i3=>CW.block (Sr λ_ i2=>zm rfl (zq rfl rfl (za rfl (zz (i2 ?_))))))));refine zy rfl ?_ ?_<;>intro e3<;>try simp only[qs] at e3
 ·have h0:S.pln=0:=e3
  refine zc λ_ i1=>?_;refine CW.jQ dZ oR λn3 i0 A=>?_;have a:=a.ta A;have r:=r.q8 A;refine ym rfl (yP rfl (yf rfl (yf rfl ?_)));refine WS.ev (Ev.load (v:=.slice av (wd S.V.m).length cv) rfl rfl (r.at_ rfl)) rfl ?_;refine yn rfl (ym rfl (yP rfl (yf rfl (yf rfl ?_))));refine WS.ev (Ev.load (v:=.slice aq (wd S.Q.m).length cq) rfl rfl (r.at_ rfl)) rfl ?_;refine yn rfl ?_
  first|refine WS.ev (Ev.kQ rfl rfl oO) rfl ?_|refine WS.ev (Ev.add rfl rfl) rfl ?_
  refine WS.ev (Ev.eql rfl rfl) rfl ?_;refine ya rfl ?_;refine WS.nil (i0 _ _ ?_);refine i1 ?_;refine zr (zr1 rfl rfl ?_);refine ⟨congrArg Value.bool (decide_eq_decide.2 ?_),a⟩;unfold sQ;rw[if_pos h0];omega
 have h0 : ¬S.pln=0:=e3;refine CW.azx 30 (decide (sgD S.Q.neg S.Q.m<=0\/S.Q.e < -2148\/(S.V.m≠0/\S.V.e < -1074))) ?_ ?_
 ·intro Z;refine zS λ_ b3=>zm rfl (zP rfl (zf rfl ?_));refine WL.ev (Ev.fZ rfl rfl r rfl rfl) rfl ?_
  try simp only[oL]
  refine WL.call hasF74 rfl rfl (akq _ _ _ _ _ f) λv w2 h'=>?_;obtain ⟨rfl,x⟩:=h';rw[g7];have Z:=Z.ta x;have r:=r.q8 x;refine zQ rfl rfl (zm rfl ?_);refine zb ?_ ?_<;>intro l5<;>try simp only[qs] at l5
  ·refine zv rfl (zv rfl (zv rfl (zv rfl (zv rfl (zv rfl (zt rfl rfl (zm rfl (zv rfl (zv rfl (zv rfl (zv rfl (zv rfl (zv rfl (zv rfl (zv rfl (zu rfl (zu rfl (zu rfl (zu rfl (zu rfl (zu rfl (zv rfl (zt rfl rfl ?_)))))))))))))))))))))));refine za rfl (zz (b3 ?_));refine ⟨rfl,Z,j0.g8 rfl ?_ ?_⟩
   ·exact AqE
   exact SMg
  refine zw rfl (zm rfl (zw rfl (zP rfl (zw rfl (zf rfl (zw rfl (zf rfl (zw rfl (zl r rfl rfl (zw rfl (zL rfl rfl (ze rfl rfl (zm rfl ?_)))))))))))));refine zb ?_ ?_<;>intro l4<;>try simp only[qs] at l4
  ·refine zv rfl (zv rfl (zv rfl (zv rfl (zv rfl (zv rfl (zv rfl (zv rfl (zu rfl (zu rfl (zu rfl (zu rfl (zu rfl (zu rfl (zv rfl (zt rfl rfl (za rfl (zz (b3 ?_))))))))))))))))));refine ⟨rfl,Z,j0.g8 rfl ?_ ?_⟩
   ·exact AqE
   exact SMg
  refine zw rfl (zm rfl (zw rfl (zP rfl (zw rfl (zf rfl (zw rfl (zf rfl (zw rfl ?_))))))));refine WL.ev (Ev.load (v:=.slice av (wd S.V.m).length cv) rfl rfl (r.at_ rfl)) rfl ?_;refine zw rfl (zn rfl (zw rfl (zG rfl rfl (zw rfl (zm rfl ?_)))));refine zb ?_ ?_<;>intro l3<;>try simp only[qs] at l3
  ·refine zw rfl (zm rfl (zw rfl (zP rfl (zw rfl (zf rfl (zw rfl (zf rfl (zw rfl (zl r rfl rfl (zw rfl (zL rfl rfl (zw rfl (zt rfl rfl (ze rfl rfl (za rfl (zz (b3 ?_)))))))))))))))));refine ⟨rfl,Z,j0.g8 rfl ?_ ?_⟩
   ·exact AqE
   exact SMg
  refine zv rfl (zv rfl (zv rfl (zv rfl (zv rfl (zv rfl (zw rfl (ze rfl rfl (ze rfl rfl (za rfl (zz (b3 ?_)))))))))));refine ⟨rfl,Z,j0.g8 rfl ?_ ?_⟩
  ·exact AqE
  exact SMg
 intro wM Z;have a:=a.ta Z;have r:=r.q8 Z;have g:=g.q8 Z;have f:=f.q8 Z;refine zy rfl ?_ ?_<;>intro e2<;>try simp only[qs] at e2
 ·have h1:sgD S.Q.neg S.Q.m<=0\/S.Q.e < -2148\/(S.V.m≠0/\S.V.e < -1074):=by simpa using e2
  refine Sr λ_ f4=>za rfl (zz (f4 ?_));refine zr (zr1 rfl rfl ?_);refine ⟨congrArg Value.bool (decide_eq_false λz=>?_).symm,a⟩;unfold sQ at z;rw[if_neg h0] at z;exact z.1 h1
 have h1 : ¬(sgD S.Q.neg S.Q.m<=0\/S.Q.e < -2148\/(S.V.m≠0/\S.V.e < -1074)):=by simpa using e2
 refine zkk (i3 (Sr λ_ f3=>zm rfl ?_));refine WL.call hasF144 rfl rfl (bdj S.pln _ (b8.q8 a) k5) λv w3 h'=>?_;obtain ⟨⟨ri,rfl,j⟩,x⟩:=h';have f6:=j.one;have a:=a.ta x;have r:=r.q8 x;have g:=g.q8 x;have f:=f.q8 x;refine zAh rfl rfl a λb4 m8 i b6 m6 g0 a=>?_;have g:=g.q8 b6;have f:=f.q8 b6;have j:=j.q8 b6;have l1:b≠b4:=by have:=r.lt;omega
 have r:=r.q8 b6;refine zss rfl rfl ao i rfl λm2 d8 Y=>?_;(try simp only[qt] at d8);have a:=a.s1 Y;have r:=r.kq Y;have g:=g.q9 i Y an;have f:=f.q9 i Y an;have j:=j.q9 i Y an;have i:=d8;refine zz (f3 (Sr λ_ f2=>zg i rfl ?_));refine WL.buildSlice (m:=1) (cs:=[kZ (1)]) oD oD rfl oR rfl λe8 h9 c2=>?_;have U:=c2.chg;have c5:=c2.ge;have g2:OB h9 e8 _ [1]:=c2.at_;have e9:=Nat.le_trans a.size c5;have a:=a.ta U;have g:=g.q8 U;have f:=f.q8 U;have j:=j.q8 U;have h5:b≠e8:=by have:=r.lt;omega
 have r:=r.q8 U;have f8:=zdd i.lt c5;have i:=i.k0 U;refine WL.ev (Ev.build (vs:=_) (cs:=[_,_,_]) rfl rfl) rfl ?_;refine WL.call hasF71 rfl rfl (uX _ _ _ _ _ _ _ _ _ j (show NU _ (.slice (some ⟨e8,0,none⟩) 1 1) (wd ayq.m) from by rw[topD_wd];exact NU.nX g2 (zX.2 ⟨by decide,ayx⟩) oD rfl (Nat.le_refl _)) (b8.q8 a) (bX a0) (bX topD_ok)) λv w4 h'=>?_;obtain ⟨hD,x⟩:=h'
 change DR _ _ (bix gX (cX (cJ S.pln).neg (val (wd (cJ S.pln).m)) (cJ S.pln).e) (cX ayq.neg (val (wd ayq.m)) ayq.e)) at hD
 rw[jJ a0 topD_ok] at hD;obtain ⟨rt,kt,rfl,p⟩:=hD.blx;have f5:=p.one;have a:=a.ta x;have r:=r.q8 x;have i:=i.k0 x;have g:=g.q8 x;have f:=f.q8 x;have j:=j.q8 x;refine zm rfl (zx rfl rfl (zx rfl rfl ?_));refine zAh rfl rfl a λb5 m7 k a2 g1 f9 a=>?_;have g:=g.q8 a2;have f:=f.q8 a2;have j:=j.q8 a2;have p:=p.q8 a2;have l0:b≠b5:=by have:=r.lt;omega
 have r:=r.q8 a2;have h6:=zdd i.lt g1;have i:=i.k0 a2;refine zss rfl rfl ao k rfl λm1 d7 R=>?_;(try simp only[qt] at d7);have a:=a.s1 R;have r:=r.kq R;have i:=i.kq R;have g:=g.q9 k R an;have f:=f.q9 k R an;have j:=j.q9 k R an;have p:=p.q9 k R an;have k:=d7;refine za rfl (zz (f2 ?_));refine CW.anj (λD s' w'=>D=[]/\∃ (b7:Nat) (rv:Value),BK w' b 91 [.int .i64 (S.s.na:Int),.int .i64 (S.s.up:Int),.int .i64 (S.s.dn:Int),.int .i64 (S.s.mi:Int),.int .i64 (S.s.pl:Int),.int .i64 (S.s.al:Int),.bool S.V.neg,.slice av (wd S.V.m).length cv,.int .i64 S.V.e,.bool S.Q.neg,.slice aq (wd S.Q.m).length cq,.int .i64 S.Q.e,.float .f64 S.lo,.float .f64 S.hi]/\NU w' (.slice av (wd S.V.m).length cv) (wd S.V.m)/\NU w' (.slice aq (wd S.Q.m).length cq) (wd S.Q.m)/\BK w' b4 89 [.bool (cJ S.pln).neg,ri,.int .i64 (cJ S.pln).e]/\NU w' ri (wd (cJ S.pln).m)/\BK w' b5 89 [.bool ((gX (cJ S.pln) ayq).getD Dy.zero).neg,rt,.int .i64 ((gX (cJ S.pln) ayq).getD Dy.zero).e]/\NU w' rt (wd ((gX (cJ S.pln) ayq).getD Dy.zero).m)/\BK w' b7 89 [.bool ((gX S.V S.V).getD Dy.zero).neg,rv,.int .i64 ((gX S.V S.V).getD Dy.zero).e]/\NU w' rv (wd ((gX S.V S.V).getD Dy.zero).m)/\Chg [] w w'/\j0 [(0,.pointer (some ⟨b,0,none⟩)),(4,.pointer (some ⟨b4,0,none⟩)),(5,.pointer (some ⟨b5,0,none⟩)),(7,.pointer (some ⟨b7,0,none⟩))] s') ?_ ?_
 ·refine CW.cQ 15 rfl dZ λm5 d5 o A=>?_;have a:=a.ta A;have r:=r.q8 A;have i:=i.k0 A;have k:=k.k0 A;have g:=g.q8 A;have f:=f.q8 A;have j:=j.q8 A;have p:=p.q8 A;have a3:=r;refine wh 0 rfl o (eM rfl) (wh 1 rfl o (eP rfl) (wh 2 rfl o (eF rfl) (wh 3 rfl o (λ_ O=>Ev.fZ rfl rfl (a3.q8 O) rfl rfl) ?_)))
  try simp only[oL]
  refine wh 4 rfl o (eM rfl) (wh 5 rfl o (eP rfl) (wh 6 rfl o (eF rfl) (wh 7 rfl o (λ_ O=>Ev.fZ rfl rfl (a3.q8 O) rfl rfl) ?_)))
  try simp only[oL]
  refine WH.c4q 8 12 oR ?_ ?_
  ·refine ahj.call 8 rfl hasF71 rfl rfl (uX _ _ _ _ _ _ _ _ _ g g (b8.q8 a) (bX X) (bX X)) λv w5 h'=>?_;obtain ⟨hD,x⟩:=h';rw[jJ X X] at hD;obtain ⟨rv,kv,rfl,t⟩:=hD.blx;have c6:=t.one;have a:=a.ta x;have r:=r.q8 x;have i:=i.k0 x;have k:=k.k0 x;have g:=g.q8 x;have f:=f.q8 x;have j:=j.q8 x;have p:=p.q8 x;have o:=o.trans x;refine ⟨o,?_⟩;refine wh 9 rfl o (eM rfl) (wh 10 rfl o (eX rfl rfl) (wh 11 rfl o (eX rfl rfl) ?_));refine WH.wQ (l:=[.bool false,.slice none 0 0,.int .i64 0]) 12 rfl oR o rfl rfl λb7 h8 q B T a9=>?_;have a8:=Nat.le_trans o.size T;have o:=a9;have c4:=Nat.le_trans a.size T;have a:=a.ta B;have g:=g.q8 B;have f:=f.q8 B;have j:=j.q8 B;have p:=p.q8 B;have t:=t.q8 B;have e1:b≠b7:=by have:=r.lt;omega
   have r:=r.q8 B;have d1:=zdd i.lt T;have i:=i.k0 B;have c9:=zdd k.lt T;have k:=k.k0 B;refine WH.sX 13 rfl oR o a8 rfl rfl rfl ao q oS rfl λm0 a6 I o=>?_;(try simp only[qt] at a6);have a:=a.s1 I;have r:=r.kq I;have i:=i.kq I;have k:=k.kq I;have g:=g.q9 q I an;have f:=f.q9 q I an;have j:=j.q9 q I an;have p:=p.q9 q I an;have t:=t.q9 q I an;have q:=a6;refine wh 14 rfl o (eA rfl) ?_;refine WH.done oR (d5 _ _ _ ?_);exact ⟨rfl,b7,rv,r,g,f,i,j,k,p,q,t,a,by repeat (first|exact j0.nil|refine j0.cons rfl ?_)⟩
  refine ahj.wQ (l:=[.bool false,.slice none 0 0,.int .i64 0]) 12 rfl o rfl rfl λb7 h8 q B T a9=>?_;have a8:=Nat.le_trans o.size T;have o:=a9;have c4:=Nat.le_trans a.size T;have a:=a.ta B;have g:=g.q8 B;have f:=f.q8 B;have j:=j.q8 B;have p:=p.q8 B;have e1:b≠b7:=by have:=r.lt;omega
  have r:=r.q8 B;have d1:=zdd i.lt T;have i:=i.k0 B;have c9:=zdd k.lt T;have k:=k.k0 B;refine WH.k7 8 rfl oR hasF71 rfl rfl (uX _ _ _ _ _ _ _ _ _ g g (b8.q8 a) (bX X) (bX X)) λv w6 h'=>?_;obtain ⟨hD,x⟩:=h';rw[jJ X X] at hD;obtain ⟨rv,kv,rfl,t⟩:=hD.blx;have c6:=t.one;have a:=a.ta x;have r:=r.q8 x;have i:=i.k0 x;have k:=k.k0 x;have q:=q.k0 x;have g:=g.q8 x;have f:=f.q8 x;have j:=j.q8 x;have p:=p.q8 x;have o:=o.trans x;refine ⟨o,?_⟩;refine wh 9 rfl o (eM rfl) (wh 10 rfl o (eX rfl rfl) (wh 11 rfl o (eX rfl rfl) ?_));refine WH.sX 13 rfl oR o a8 rfl rfl rfl ao q oS rfl λl9 a6 H o=>?_;(try simp only[qt] at a6);have a:=a.s1 H;have r:=r.kq H;have i:=i.kq H;have k:=k.kq H;have g:=g.q9 q H an;have f:=f.q9 q H an;have j:=j.q9 q H an;have p:=p.q9 q H an;have t:=t.q9 q H an;have q:=a6;refine wh 14 rfl o (eA rfl) ?_;refine WH.done oR (d5 _ _ _ ?_);exact ⟨rfl,b7,rv,r,g,f,i,j,k,p,q,t,a,by repeat (first|exact j0.nil|refine j0.cons rfl ?_)⟩
 rintro _ s' wJ ⟨rfl,b7,rv,r,g,f,i,j,k,p,q,t,a,c1⟩;refine CW.sub c1 ?_;have f6:=j.one;have f5:=p.one;have c6:=t.one;refine CW.anj (λD s' w'=>D=[]/\∃ (b7:Nat) (rv:Value) (b9:Nat) (rb:Value),BK w' b 91 [.int .i64 (S.s.na:Int),.int .i64 (S.s.up:Int),.int .i64 (S.s.dn:Int),.int .i64 (S.s.mi:Int),.int .i64 (S.s.pl:Int),.int .i64 (S.s.al:Int),.bool S.V.neg,.slice av (wd S.V.m).length cv,.int .i64 S.V.e,.bool S.Q.neg,.slice aq (wd S.Q.m).length cq,.int .i64 S.Q.e,.float .f64 S.lo,.float .f64 S.hi]/\NU w' (.slice av (wd S.V.m).length cv) (wd S.V.m)/\NU w' (.slice aq (wd S.Q.m).length cq) (wd S.Q.m)/\BK w' b4 89 [.bool (cJ S.pln).neg,ri,.int .i64 (cJ S.pln).e]/\NU w' ri (wd (cJ S.pln).m)/\BK w' b5 89 [.bool ((gX (cJ S.pln) ayq).getD Dy.zero).neg,rt,.int .i64 ((gX (cJ S.pln) ayq).getD Dy.zero).e]/\NU w' rt (wd ((gX (cJ S.pln) ayq).getD Dy.zero).m)/\BK w' b7 89 [.bool ((gX S.V S.V).getD Dy.zero).neg,rv,.int .i64 ((gX S.V S.V).getD Dy.zero).e]/\NU w' rv (wd ((gX S.V S.V).getD Dy.zero).m)/\BK w' b9 89 [.bool ((gX (cJ S.pln) S.Q).getD Dy.zero).neg,rb,.int .i64 ((gX (cJ S.pln) S.Q).getD Dy.zero).e]/\NU w' rb (wd ((gX (cJ S.pln) S.Q).getD Dy.zero).m)/\Chg [] w w'/\j0 [(0,.pointer (some ⟨b,0,none⟩)),(4,.pointer (some ⟨b4,0,none⟩)),(5,.pointer (some ⟨b5,0,none⟩)),(7,.pointer (some ⟨b7,0,none⟩)),(9,.pointer (some ⟨b9,0,none⟩))] s') ?_ ?_
 ·refine CW.cQ 12 rfl dZ λm4 d4 o A=>?_;have a:=a.ta A;have r:=r.q8 A;have i:=i.k0 A;have k:=k.k0 A;have q:=q.k0 A;have g:=g.q8 A;have f:=f.q8 A;have j:=j.q8 A;have p:=p.q8 A;have t:=t.q8 A;have a3:=r;have e7:=i;refine wh 0 rfl o (λ_ O=>Ev.rZ rfl rfl (e7.q8 O) rfl) (wh 1 rfl o (eM rfl) (wh 2 rfl o (eP rfl) (wh 3 rfl o (eF rfl) (wh 4 rfl o (λ_ O=>Ev.fZ rfl rfl (a3.q8 O) rfl rfl) ?_))))
  try simp only[oL]
  refine WH.c4q 5 9 oR ?_ ?_
  ·refine ahj.call 5 rfl hasF71 rfl rfl (uX _ _ _ _ _ _ _ _ _ j f (b8.q8 a) (bX a0) (bX a1)) λv w7 h'=>?_;obtain ⟨hD,x⟩:=h';rw[jJ a0 a1] at hD;obtain ⟨rb,kb,rfl,J⟩:=hD.blx;have f7:=J.one;have a:=a.ta x;have r:=r.q8 x;have i:=i.k0 x;have k:=k.k0 x;have q:=q.k0 x;have g:=g.q8 x;have f:=f.q8 x;have j:=j.q8 x;have p:=p.q8 x;have t:=t.q8 x;have o:=o.trans x;refine ⟨o,?_⟩;refine wh 6 rfl o (eM rfl) (wh 7 rfl o (eX rfl rfl) (wh 8 rfl o (eX rfl rfl) ?_));refine WH.wQ (l:=[.bool false,.slice none 0 0,.int .i64 0]) 9 rfl oR o rfl rfl λb9 h7 C y M a9=>?_;have a7:=Nat.le_trans o.size M;have o:=a9;have c3:=Nat.le_trans a.size M;have a:=a.ta y;have g:=g.q8 y;have f:=f.q8 y;have j:=j.q8 y;have p:=p.q8 y;have t:=t.q8 y;have J:=J.q8 y;have e0:b≠b9:=by have:=r.lt;omega
   have r:=r.q8 y;have d0:=zdd i.lt M;have i:=i.k0 y;have c8:=zdd k.lt M;have k:=k.k0 y;have c7:=zdd q.lt M;have q:=q.k0 y;refine WH.sX 10 rfl oR o a7 rfl rfl rfl ao C oS rfl λl8 a5 G o=>?_;(try simp only[qt] at a5);have a:=a.s1 G;have r:=r.kq G;have i:=i.kq G;have k:=k.kq G;have q:=q.kq G;have g:=g.q9 C G an;have f:=f.q9 C G an;have j:=j.q9 C G an;have p:=p.q9 C G an;have t:=t.q9 C G an;have J:=J.q9 C G an;have C:=a5;refine wh 11 rfl o (eA rfl) ?_;refine WH.done oR (d4 _ _ _ ?_);exact ⟨rfl,b7,rv,b9,rb,r,g,f,i,j,k,p,q,t,C,J,a,by repeat (first|exact j0.nil|refine j0.cons rfl ?_)⟩
  refine ahj.wQ (l:=[.bool false,.slice none 0 0,.int .i64 0]) 9 rfl o rfl rfl λb9 h7 C y M a9=>?_;have a7:=Nat.le_trans o.size M;have o:=a9;have c3:=Nat.le_trans a.size M;have a:=a.ta y;have g:=g.q8 y;have f:=f.q8 y;have j:=j.q8 y;have p:=p.q8 y;have t:=t.q8 y;have e0:b≠b9:=by have:=r.lt;omega
  have r:=r.q8 y;have d0:=zdd i.lt M;have i:=i.k0 y;have c8:=zdd k.lt M;have k:=k.k0 y;have c7:=zdd q.lt M;have q:=q.k0 y;refine WH.k7 5 rfl oR hasF71 rfl rfl (uX _ _ _ _ _ _ _ _ _ j f (b8.q8 a) (bX a0) (bX a1)) λv w8 h'=>?_;obtain ⟨hD,x⟩:=h';rw[jJ a0 a1] at hD;obtain ⟨rb,kb,rfl,J⟩:=hD.blx;have f7:=J.one;have a:=a.ta x;have r:=r.q8 x;have i:=i.k0 x;have k:=k.k0 x;have q:=q.k0 x;have C:=C.k0 x;have g:=g.q8 x;have f:=f.q8 x;have j:=j.q8 x;have p:=p.q8 x;have t:=t.q8 x;have o:=o.trans x;refine ⟨o,?_⟩;refine wh 6 rfl o (eM rfl) (wh 7 rfl o (eX rfl rfl) (wh 8 rfl o (eX rfl rfl) ?_));refine WH.sX 10 rfl oR o a7 rfl rfl rfl ao C oS rfl λl7 a5 F o=>?_;(try simp only[qt] at a5);have a:=a.s1 F;have r:=r.kq F;have i:=i.kq F;have k:=k.kq F;have q:=q.kq F;have g:=g.q9 C F an;have f:=f.q9 C F an;have j:=j.q9 C F an;have p:=p.q9 C F an;have t:=t.q9 C F an;have J:=J.q9 C F an;have C:=a5;refine wh 11 rfl o (eA rfl) ?_;refine WH.done oR (d4 _ _ _ ?_);exact ⟨rfl,b7,rv,b9,rb,r,g,f,i,j,k,p,q,t,C,J,a,by repeat (first|exact j0.nil|refine j0.cons rfl ?_)⟩
 rintro _ s' wJ ⟨rfl,b7,rv,b9,rb,r,g,f,i,j,k,p,q,t,C,J,a,c1⟩;refine CW.sub c1 ?_;have f6:=j.one;have f5:=p.one;have c6:=t.one;have f7:=J.one;refine zc λ_ d6=>?_;refine CW.cQ 14 rfl dZ λm3 d3 o A=>?_;have a:=a.ta A;have r:=r.q8 A;have k:=k.k0 A;have q:=q.k0 A;have C:=C.k0 A;have f:=f.q8 A;have p:=p.q8 A;have t:=t.q8 A;have J:=J.q8 A;have a3:=r;have e6:=k;have e5:=q;have e4:=C;refine wh 0 rfl o (eM rfl) (wh 1 rfl o (eP rfl) (wh 2 rfl o (eF rfl) (wh 3 rfl o (λ_ O=>Ev.fZ rfl rfl (a3.q8 O) rfl rfl) ?_)))
 try simp only[oL]
 refine wh 4 rfl o (λ_ O=>Ev.rZ rfl rfl (e6.q8 O) rfl) ?_;refine WH.k7 5 rfl oR hasF150 rfl rfl (ebq _ _ _ _ _ _ _ _ _ f p (le_mil a1) (le_mil (tZ λd h=>mJ h)) (e_mil a1) (e_mil (tZ λd h=>mJ h))) λv w9 h'=>?_;obtain ⟨rfl,x⟩:=h';rw[g7,g7];have a:=a.ta x;have t:=t.q8 x;have J:=J.q8 x;have o:=o.trans x;refine ⟨o,?_⟩
 by_cases hq97:cmpY S.Q ((gX (cJ S.pln) ayq).getD Dy.zero)<0
 ·refine wh 6 rfl o (λ_ _=>Ev.lss rfl rfl) ?_;rw[show decide (bqq _ _ _ _ _ _<0)=true from decide_eq_true hq97];refine wh 7 rfl o (eM rfl) (wg 8 rfl rfl rfl rfl rfl o (λ_ O=>Ev.rZ rfl rfl (e5.q8 O) rfl) (wg 9 rfl rfl rfl rfl rfl o (λ_ O=>Ev.rZ rfl rfl (e4.q8 O) rfl) ?_));refine WH.rX 10 rfl oR rfl rfl rfl rfl hasF150 rfl rfl (ebq _ _ _ _ _ _ _ _ _ t J (le_mil (tZ λd h=>mJ h)) (le_mil (tZ λd h=>mJ h)) (e_mil (tZ λd h=>mJ h)) (e_mil (tZ λd h=>mJ h))) λv n0 h'=>?_;obtain ⟨rfl,x⟩:=h';rw[g7,g7];have a:=a.ta x;have o:=o.trans x;refine ⟨o,?_⟩;refine wg 11 rfl rfl rfl rfl rfl o (λ_ _=>Ev.leq rfl rfl) (wh 12 rfl o (λ_ _=>Ev.aeq rfl rfl rfl) (wh 13 rfl o (eA rfl) ?_));refine WH.done oR (d3 _ _ _ ?_);refine d6 ?_;refine zr (zr1 rfl rfl ?_);refine ⟨congrArg Value.bool (decide_eq_decide.2 ?_),a⟩;unfold sQ;rw[if_neg h0];exact ⟨λz=>⟨h1,hq97,z⟩,λz=>z.2.2⟩
 refine wh 6 rfl o (λ_ _=>Ev.lss rfl rfl) ?_;rw[show decide (bqq _ _ _ _ _ _<0)=false from decide_eq_false hq97];refine wh 7 rfl o (eM rfl) (wp 8 rfl rfl rfl rfl rfl o (wp 9 rfl rfl rfl rfl rfl o ?_));refine WH.a0x 10 rfl oR rfl rfl rfl rfl o rfl ?_;refine wp 11 rfl rfl rfl rfl rfl o (wh 12 rfl o (λ_ _=>Ev.aox rfl rfl rfl) (wh 13 rfl o (eA rfl) ?_));refine WH.done oR (d3 _ _ _ ?_);refine d6 ?_;refine zr (zr1 rfl rfl ?_);refine ⟨congrArg Value.bool (decide_eq_false λz=>?_).symm,a⟩;unfold sQ at z;rw[if_neg h0] at z;exact hq97 z.2.1
def rdK(bs:List Nat):Nat->List Nat×Nat×Bool
  | 0=>([],0,false)
  | n+1=>((rdK bs n).1++[(rdC bs (rdK bs n).2.1 (rdK bs n).2.2).1],(rdC bs (rdK bs n).2.1 (rdK bs n).2.2).2)
theorem rdK_len(a:List Nat)(n:Nat):(rdK a n).1.length=n:=by
  induction n with
  | zero=>rfl
  | succ n ih=>rw[rdK];simp[ih]
theorem cfx(a:List Nat)(p:Nat)(bad:Bool):(rdC a p bad).1<=1099511627776:=by
  unfold rdC;split
  · exact Nat.zero_le _
  · omega
theorem rdK_le(b:List Nat)(n:Nat): ∀ x∈(rdK b n).1,x<=1099511627776:=by
  induction n with
  | zero=>intro x a;cases a
  | succ n ih=>
    rw[rdK]
    intro x a
    rcases List.mem_append.1 a with a|a
    · exact ih x a
    · rw[List.mem_singleton.1 a];exact cfx ..
def rdE(sm:Bool)(bs:List Nat)(p:Nat)(bad:Bool):Nat×Nat×Nat×Bool:=if sm=true then ((rdN bs p bad 8).1,(rdN bs (rdN bs p bad 8).2.1 (rdN bs p bad 8).2.2 8).1,(rdN bs (rdN bs p bad 8).2.1 (rdN bs p bad 8).2.2 8).2) else (0,0,p,bad)
def auj(l:List Nat):SP:=⟨l.getD 0 0,l.getD 1 0,l.getD 2 0,l.getD 3 0,l.getD 4 0,l.getD 5 0⟩
def oQ(s:SP)(v q:Bool×List Nat×Int×Nat×Bool)(lo hi:Nat):Sh:=⟨s,⟨v.1,val v.2.1,v.2.2.1⟩,⟨q.1,val q.2.1,q.2.2.1⟩,lo,hi⟩
def decE(bs:List Nat)(s:SP)(v q:Bool×List Nat×Int×Nat×Bool)(e:Nat×Nat×Nat×Bool):Option Sh:=
  if e.2.2.2=true\/0<bs.length-e.2.2.1\/¬sQ (oQ s v q e.1 e.2.1)\/((oQ s v q e.1 e.2.1).some/\¬vX (oQ s v q e.1 e.2.1)) then none else some (oQ s v q e.1 e.2.1)
def decV(bs:List Nat)(s:SP)(v q:Bool×List Nat×Int×Nat×Bool):Option Sh:=decE bs s v q (rdE (decide (s.na<s.al)) bs q.2.2.2.1 q.2.2.2.2)
def d2x(bs:List Nat)(s:SP)(v:Bool×List Nat×Int×Nat×Bool):Option Sh:=decV bs s v (rdD bs v.2.2.2.1 v.2.2.2.2)
def apx(bs:List Nat):Option Sh:=
  if (rdK bs 6).2.2=true\/(Sh.mk (auj (rdK bs 6).1) Dy.zero Dy.zero 0 0).fin<((auj (rdK bs 6).1).mi:Int)+(auj (rdK bs 6).1).pl then none else d2x bs (auj (rdK bs 6).1) (rdD bs (rdK bs 6).2.1 (rdK bs 6).2.2)
theorem c7q(a:List Nat)(p k:Nat):rdN a p true k=(0,p,true):=if_pos (.inl rfl)
theorem rdW_bad(a:List Nat)(p n:Nat):(rdW a p true n).2.2=true:=by
  induction n with
  | zero=>rfl
  | succ n ih=>rw[rdW,ih,c7q]
theorem rdD_bad(a:List Nat)(p:Nat):(rdD a p true).2.2.2.2=true:=by
  unfold rdD;simp[c7q,rdW]
theorem rdD_mono{a:List Nat}{p:Nat}{bad:Bool}{x:Bool×List Nat×Int×Nat×Bool}(h:rdD a p bad=x)(b:x.2.2.2.2=false):bad=false:=by
  cases bad with
  | false=>rfl
  | true=>have:=rdD_bad a p;rw[h,b] at this;cases this
theorem bzx{b:Bool}{d:List Nat}{p:Nat}{bad:Bool}{x:Nat×Nat×Nat×Bool}(h:rdE b d p bad=x)(a:x.2.2.2=false):bad=false:=by
  cases bad with
  | false=>rfl
  | true=>
    subst h
    unfold rdE at a
    split at a
    · simp[c7q] at a
    · cases a
theorem val_mod(x:Nat)(l:List Nat):val (x::l)%2=x%2:=by rw[val];omega
theorem dij{a:List Nat}(k:B8 a){p:Nat}{bad:Bool}(h:(rdD a p bad).2.2.2.2=false):wd (val (rdD a p bad).2.1)=(rdD a p bad).2.1/\(Dy.mk (rdD a p bad).1 (val (rdD a p bad).2.1) (rdD a p bad).2.2.1).ok:=by
  have D:=aix k p bad 1
  unfold rdD at h ⊢
  generalize rdN a p bad 1=R1 at *
  obtain ⟨o,n,t⟩:=R1
  dsimp only at *
  have C:=aix k n t 2
  generalize rdN a n t 2=R2 at *
  obtain ⟨v,u,B⟩:=R2
  dsimp only at *
  generalize rdN a u B 2=R3 at *
  obtain ⟨f,i,m⟩:=R3
  dsimp only at *
  by_cases hq:1<o\/160<f
  · rw[if_pos hq] at h;cases h
  · rw[if_neg hq] at h ⊢
    have r:=a1q a i m f
    have w:=rdW_W k i m f
    generalize rdW a i m f=RW at *
    obtain ⟨e,q,F⟩:=RW
    dsimp only at *
    by_cases h0:f=0
    · rw[if_pos h0] at h
      have s:=of_decide_eq_false h
      have j:e=[]:=List.length_eq_zero_iff.1 oO
      subst j
      have A:decide ((o:Int)=1)=false:=decide_eq_false λz=>s (.inr (.inl z))
      have y:(v:Int)-4096=0:=Classical.byContradiction λz=>s (.inr (.inr z))
      rw[A,y]
      exact ⟨fX,b6x⟩
    · rw[if_neg h0] at h
      have h:=of_decide_eq_false h
      have d:e.getD (e.length-1) 0≠0:=by rw[r];exact λz=>h (.inr (.inr z))
      have g:=brx w (.inr d)
      have b:val e%2=1:=by
        cases e with
        | nil=>simp at r;omega
        | cons x l=>rw[val_mod];have : ¬x%2=0:=λz=>h (.inr (.inl (by simpa using z)));omega
      refine ⟨g,λz=>?_,λ_=>b,?_,?_⟩
      · simp only at z;rw[z] at b;cases b
      · simp only[g];omega
      · simp only;have:(256:Nat)^2=65536:=by decide
        omega
def c9j(l:List Nat):List Value:=[.int .i64 (l.getD 0 0:Nat),.int .i64 (l.getD 1 0:Nat),.int .i64 (l.getD 2 0:Nat),.int .i64 (l.getD 3 0:Nat),.int .i64 (l.getD 4 0:Nat),.int .i64 (l.getD 5 0:Nat),.bool false,.slice none 0 0,.int .i64 0,.bool false,.slice none 0 0,.int .i64 0,.float .f64 0,.float .f64 0]
theorem cells14_set{l:List Nat}{i x:Nat}(g:l.length=i)(h:i<6):(c9j l).set i (.int .i64 (x:Int))=c9j (l++[x]):=by
  subst g
  rcases l with _|⟨a,_|⟨b,_|⟨c,_|⟨d,_|⟨e,_|⟨f,l⟩⟩⟩⟩⟩⟩
  · rfl
  · rfl
  · rfl
  · rfl
  · rfl
  · rfl
  · simp at h;omega
theorem ptr6{b i:Nat}(a:i<6):[Value.pointer (some ⟨b,0,none⟩),.pointer (some ⟨b,1,none⟩),.pointer (some ⟨b,2,none⟩),.pointer (some ⟨b,3,none⟩),.pointer (some ⟨b,4,none⟩),.pointer (some ⟨b,5,none⟩)][i]?=some (.pointer (some ⟨b,i,none⟩)):=by
  match i,a with
  | 0,_=>rfl
  | 1,_=>rfl
  | 2,_=>rfl
  | 3,_=>rfl
  | 4,_=>rfl
  | 5,_=>rfl
theorem list6{l:List Nat}(h:l.length=6): ∃ a b c d e f,l=[a,b,c,d,e,f]:=by
  rcases l with _|⟨a,_|⟨b,_|⟨c,_|⟨d,_|⟨e,_|⟨f,_|⟨g,l⟩⟩⟩⟩⟩⟩⟩
  · cases h
  · cases h
  · cases h
  · cases h
  · cases h
  · cases h
  · exact ⟨a,b,c,d,e,f,rfl⟩
  · simp at h
theorem NU.dqx{w w':World}{v:Value}{l:List Nat}{lo d p:Nat}{g:List Nat}{bad:Bool}(h:NU w v l)(hT:TpM lo w d g p bad)(e:Chg [d] w w'):NU w' v l:=by
  obtain ⟨a,c,f,_⟩:=hT
  exact h.q9 f e (by intro v b;simp only[List.mem_cons,List.not_mem_nil,or_false] at b;rcases b with rfl|rfl<;>rfl)
structure KDc(b10 b12 b37:Nat)(bs:List Nat)(w0:World)(i:Nat)(w:World):Prop where
  hi:i<=6
  t:TpM (b10+1) w b10 bs (rdK bs i).2.1 (rdK bs i).2.2
  h12:BK w b12 91 (c9j (rdK bs i).1)
  h37:BK w b37 142 [.pointer (some ⟨b12,0,none⟩),.pointer (some ⟨b12,1,none⟩),.pointer (some ⟨b12,2,none⟩),.pointer (some ⟨b12,3,none⟩),.pointer (some ⟨b12,4,none⟩),.pointer (some ⟨b12,5,none⟩)]
  ch:Chg [] w0 w
theorem dcx(b:Nat)(s:SP)(q p o n i h g f:Value)(w:World)(e:BK w b 91 [.int .i64 (s.na:Int),.int .i64 (s.up:Int),.int .i64 (s.dn:Int),.int .i64 (s.mi:Int),.int .i64 (s.pl:Int),.int .i64 (s.al:Int),q,p,o,n,i,h,g,f])(m:s.le 1099511627776):Ret Tryz.prog 47 [.pointer (some ⟨b,0,none⟩)] w λu w'=>u = .bool (decide (s.na<s.al))/\Chg [] w w':=by
 obtain ⟨A,z,y,x,v,t⟩:=m;have a:=crf w;refine zE1 Tryz.func47 rfl ?_;refine Sr λ_ l=>za rfl (zz (l (zc λ_ k=>?_)));refine CW.jQ dZ oR λr j d=>?_;have a:=a.ta d;have e:=e.q8 d;refine ym rfl (yP rfl (yf rfl (yf rfl ?_)));refine WS.ev (Ev.load rfl rfl (e.at_ rfl)) rfl ?_;refine ym rfl (yP rfl (yf rfl (yf rfl ?_)));refine WS.ev (Ev.load rfl rfl (e.at_ rfl)) rfl ?_;refine WS.ev (Ev.gtr rfl rfl) rfl ?_;refine ya rfl ?_;refine WS.nil (j _ _ ?_);refine k ?_;refine zr (zr1 rfl rfl ?_);refine ⟨congrArg Value.bool (decide_eq_decide.2 ?_),a⟩;omega
theorem leV_leB(n k:Nat):leV (leB n k)=n%256^k:=by
  induction k with
  | zero=>rw[leB_zero,Nat.pow_zero,Nat.mod_one];rfl
  | succ k ih=>
    rw[dpj,leV_snoc,iQ,ih,Nat.pow_succ,Nat.mod_mul,Nat.mul_comm]
theorem amj(n k:Nat):B8 (leB n k):=λx hx=>by
  unfold leB at hx
  obtain ⟨i,_,rfl⟩:=List.mem_map.1 hx
  exact Nat.mod_lt _ oD
theorem B8.append{a b:List Nat}(e:B8 a)(d:B8 b):B8 (a++b):=λx hx=>by
  rcases List.mem_append.1 hx with h|h
  · exact e x h
  · exact d x h
theorem B8.flat{α:Type}{l:List α}{f:α->List Nat}(h : ∀ x,B8 (f x)):B8 (l.map f).flatten:=λx hx=>by
  obtain ⟨m,hm,hx⟩:=List.mem_flatten.1 hx
  obtain ⟨a,_,rfl⟩:=List.mem_map.1 hm
  exact h a x hx
def AtB(bs:List Nat)(p:Nat)(r:List Nat):Prop:=p<=bs.length/\bs.drop p=r
theorem AtB.step{b:List Nat}{p:Nat}{a r:List Nat}(h:AtB b p (a++r)){k:Nat}(e:a.length=k):AtB b (p+k) r:=by
  obtain ⟨g,d⟩:=h
  have f:b.length-p=a.length+r.length:=by rw[<- List.length_drop,d,List.length_append]
  refine ⟨by omega,?_⟩
  rw[<- List.drop_drop,d,<- e,List.drop_left]
theorem diq{a:List Nat}{p n k:Nat}{r:List Nat}(h:AtB a p (leB n k++r))(d:n<256^k):rdN a p false k=(n,p+k,false)/\AtB a (p+k) r:=by
  refine ⟨?_,h.step (iQ n k)⟩
  obtain ⟨f,b⟩:=h
  have e:a.length-p=k+r.length:=by rw[<- List.length_drop,b,List.length_append,iQ]
  unfold rdN
  rw[if_neg oT,b,List.take_left' (iQ n k),leV_leB,Nat.mod_eq_of_lt d]
theorem d5j{a:List Nat}{p n:Nat}{r:List Nat}(h:AtB a p (leB n 8++r))(b:n<=1099511627776):rdC a p false=(n,p+8,false)/\AtB a (p+8) r:=by
  obtain ⟨e,d⟩:=diq h (Nat.lt_of_le_of_lt b oD)
  refine ⟨?_,d⟩
  unfold rdC
  rw[e,if_neg (by simp only;omega)]
theorem rdW_s{b:List Nat}{p:Nat}{a r:List Nat}(h:AtB b p ((a.map λx=>leB x 4).flatten++r))(f:W a): ∀ n,n<=a.length->rdW b p false n=(a.take n,p+4*n,false)/\AtB b (p+4*n) (((a.drop n).map λx=>leB x 4).flatten++r):=by
  intro n
  induction n with
  | zero=>intro _;exact ⟨by simp[rdW],by simpa using h⟩
  | succ n ih=>
    intro k
    obtain ⟨j,d⟩:=ih oO
    have e:a.drop n=a.getD n 0::a.drop (n+1):=by
      rw[List.drop_eq_getElem_cons (by omega:n<a.length),List.getD_eq_getElem?_getD,List.getElem?_eq_getElem oO];rfl
    rw[e,List.map_cons,List.flatten_cons,List.append_assoc] at d
    obtain ⟨i,g⟩:=diq d (Nat.lt_of_lt_of_le (f.getD n) oD)
    rw[show p+4*(n+1)=p+4*n+4 by omega]
    refine ⟨?_,g⟩
    rw[rdW,j]
    simp only[i]
    rw[asq oO]
theorem wd_head{n:Nat}(h:n≠0):(wd n).getD 0 0%2=n%2:=by rw[cqj h];simp
theorem rdD_s{b:List Nat}{p:Nat}{d:Dy}{r:List Nat}(h:AtB b p (alq d++r))(a:d.ok)(t : -4096<=d.e/\d.e<=61439)(s:(wd d.m).length<=160):rdD b p false=(d.neg,wd d.m,d.e,p+(alq d).length,false)/\AtB b (p+(alq d).length) r:=by
  refine ⟨?_,h.step rfl⟩
  unfold alq at h
  simp only[List.append_assoc] at h
  obtain ⟨o,h⟩:=diq h (by split<;>decide)
  obtain ⟨n,h⟩:=diq h (by show (d.e+4096).toNat<65536;omega)
  obtain ⟨l,h⟩:=diq h (by show (wd d.m).length<65536;omega)
  obtain ⟨f,h⟩:=rdW_s h (W_wd _) _ (Nat.le_refl _)
  rw[List.take_length] at f
  unfold rdD
  rw[o];dsimp only
  rw[n];dsimp only
  rw[l];dsimp only
  rw[if_neg (by split<;>omega),f];dsimp only
  have k:decide (((if d.neg=true then 1 else 0:Nat):Int)=1)=d.neg:=by cases d.neg<;>rfl
  have j:(((d.e+4096).toNat:Nat):Int)-4096=d.e:=by omega
  rw[k,j,pJ,show p+1+2+2+4*(wd d.m).length=p+(5+4*(wd d.m).length) by omega]
  by_cases h0:d.m=0
  · have g:=a.z h0
    rw[if_pos (by rw[asx];exact h0)]
    have:d.neg=false/\d.e=0:=by rw[g];exact ⟨rfl,rfl⟩
    rw[this.1,this.2];simp
  · rw[if_neg (λq=>h0 (asx.1 q))]
    have v:=a.odd h0
    have u:=wd_head h0
    have i:=cix h0
    rw[decide_eq_false (by rintro (q|q|q);cases q;omega;exact i q)]
theorem rdK_s{g:List Nat}{a b c d e f:Nat}{r:List Nat}(h:AtB g 0 (leB a 8++(leB b 8++(leB c 8++(leB d 8++(leB e 8++(leB f 8++r)))))))
    (u:a<=1099511627776) (t:b<=1099511627776) (s:c<=1099511627776) (q:d<=1099511627776) (p:e<=1099511627776) (o:f<=1099511627776):rdK g 6=([a,b,c,d,e,f],48,false)/\AtB g 48 r:=by
  obtain ⟨n,h⟩:=d5j h u
  obtain ⟨m,h⟩:=d5j h t
  obtain ⟨l,h⟩:=d5j h s
  obtain ⟨k,h⟩:=d5j h q
  obtain ⟨j,h⟩:=d5j h p
  obtain ⟨i,h⟩:=d5j h o
  simp only[Nat.zero_add,Nat.reduceAdd] at n m l k j i h
  refine ⟨?_,h⟩
  simp only[rdK,n,m,l,k,j,i]
  rfl
structure Sh.back(S:Sh):Prop where
  wf:S.wf
  ex:S.ex
  no : ¬S.some->S.lo=0/\S.hi=0
  fin:(S.s.mi:Int)+S.s.pl<=S.fin
  sums:sQ S
  ends : S.some -> vX S
theorem decS_encS{S:Sh}(h:S.back):apx (ahx S)=some S:=by
  obtain ⟨⟨⟨s1,s2,w,u,t,r⟩,y,z,l,n⟩,d,i,p,a,f⟩:=h
  have M:AtB (ahx S) 0 (ahx S):=⟨Nat.zero_le _,rfl⟩
  have F:AtB (ahx S) 0 (leB S.s.na 8++(leB S.s.up 8++(leB S.s.dn 8++(leB S.s.mi 8++(leB S.s.pl 8++(leB S.s.al 8++(alq S.V++(alq S.Q++((if S.some then leB S.lo 8++leB S.hi 8 else [])++[]))))))))):=by
    refine ⟨Nat.zero_le _,?_⟩
    unfold ahx
    simp only[List.append_assoc,List.drop_zero,List.append_nil]
  obtain ⟨x,D⟩:=rdK_s F s1 s2 w u t r
  obtain ⟨J,C⟩:=rdD_s D y d.v d.lv
  obtain ⟨I,j⟩:=rdD_s C z d.q d.lq
  have k:auj [S.s.na,S.s.up,S.s.dn,S.s.mi,S.s.pl,S.s.al]=S.s:=rfl
  unfold apx
  rw[x]
  simp only[k]
  rw[if_neg (by rintro (q|q);cases q;exact absurd q (by have:(Sh.mk S.s Dy.zero Dy.zero 0 0).fin=S.fin:=rfl;rw[this];omega)),J]
  unfold d2x
  simp only[I]
  unfold decV
  simp only
  have g:oQ S.s (S.V.neg,wd S.V.m,S.V.e,48+(alq S.V).length,false) (S.Q.neg,wd S.Q.m,S.Q.e,48+(alq S.V).length+(alq S.Q).length,false) S.lo S.hi=S:=by
    unfold oQ
    simp only[g7]
  by_cases hs:S.some
  · rw[if_pos hs,List.append_assoc] at j
    obtain ⟨H,B⟩:=diq j l
    obtain ⟨G,A⟩:=diq B n
    have o:rdE (decide (S.s.na<S.s.al)) (ahx S) (48+(alq S.V).length+(alq S.Q).length) false=(S.lo,S.hi,48+(alq S.V).length+(alq S.Q).length+8+8,false):=by
      unfold rdE
      rw[if_pos (show decide (S.s.na<S.s.al)=true from decide_eq_true hs),H];dsimp only
      rw[G]
    rw[o]
    unfold decE
    simp only[g]
    have b:(ahx S).length-(48+(alq S.V).length+(alq S.Q).length+8+8)=0:=by rw[<- List.length_drop,A.2];rfl
    rw[if_neg]
    rintro (q|q|q|q)
    · cases q
    · rw[b] at q;omega
    · exact q a
    · exact q.2 (f hs)
  · rw[if_neg hs] at j
    have o:rdE (decide (S.s.na<S.s.al)) (ahx S) (48+(alq S.V).length+(alq S.Q).length) false=(S.lo,S.hi,48+(alq S.V).length+(alq S.Q).length,false):=by
      unfold rdE
      rw[if_neg (by simpa[Sh.some] using hs),(i hs).1,(i hs).2]
    rw[o]
    unfold decE
    simp only[g]
    have b:(ahx S).length-(48+(alq S.V).length+(alq S.Q).length)=0:=by rw[<- List.length_drop,j.2];rfl
    rw[if_neg]
    rintro (q|q|q|q)
    · cases q
    · rw[b] at q;omega
    · exact q a
    · exact hs q.1
theorem encS_B8(S:Sh):B8 (ahx S):=by
  unfold ahx alq
  refine ((((((((amj _ _).append (amj _ _)).append (amj _ _)).append (amj _ _)).append (amj _ _)).append (amj _ _)).append ?_).append ?_).append ?_
  · exact (((amj _ _).append (amj _ _)).append (amj _ _)).append (B8.flat λx=>amj x 4)
  · exact (((amj _ _).append (amj _ _)).append (amj _ _)).append (B8.flat λx=>amj x 4)
  · split
    · exact (amj _ _).append (amj _ _)
    · intro x a;cases a
def fnv(l:List Nat):Nat:=l.foldl (λh c=>(h ^^^ c)*16777619%4294967296) 2166136261
def recB(nm data:List Nat):List Nat:=([nm.length%256]++nm)++leB data.length 3++data
def laidB(nm data:List Nat):List Nat:=recB nm data++leB (fnv (recB nm data)) 4
abbrev RG:=ByteArray×List Nat×Value
def recC(G:List RG):List Value:=(G.map λg=>[Value.string g.1,g.2.2]).flatten
def szG(g:RG):Nat:=8+(sB g.1).length+g.2.1.length
def totG(G:List RG):Nat:=(G.map szG).sum
def bytG(G:List RG):List Nat:=(G.map λg=>laidB (sB g.1) g.2.1).flatten
structure LgM(lo:Nat)(w:World)(b:Nat)(G:List RG):Prop where
  ex : ∃ v,BK w b 164 [v,.int .i64 ((totG G:Nat):Int)]/\GRc w 105 2 lo [] v G.length (recC G)
  dat : ∀ g∈G,GR w 5 u8v 0 [] g.2.2 g.2.1/\B8 g.2.1
  tot:totG G<=1048576
namespace Sx
section
variable {P:Program} {n:Nat} {D:List Deferred} {s:Sl} {w:World} {ops:Array Oper} {K:KK} {rest:List Oper} {ty:TypeId} {pos:String} {af:Array Edge} {d:Nat} {x y:Operand} {S:World->Prop} {z fuel:Nat} {listed:Array Bool}
end
end Sx
end
section
open Go Sx Wd Fl
def DatM(w:World)(G:List RG):Prop:=∀ g∈G,GR w 5 u8v 0 [] g.2.2 g.2.1/\B8 g.2.1
theorem encS_len{S:Sh}(h:S.ex):(ahx S).length<=1354:=by
  have b:=h.lv
  have a:=h.lq
  unfold ahx
  simp only[List.length_append,iQ,pJ]
  split
  · rw[List.length_append,iQ,iQ];omega
  · rw[List.length_nil];omega
theorem blj(a:Option Addr)(B:List Nat)(c:Nat)(w:World)(hr:RW w a (B.map u8v))(n0:B.length<=c)(l3 : ∀ ad,a=some ad->ad.block<w.heap.size)(hB:B8 B)(hL:B.length<=140737488355328)(hg:GW w):Ret Tryz.prog 25 [.slice a B.length c] w λu w'=>((∃ S b,apx B=some S/\u = .tuple [.pointer (some ⟨b,0,none⟩),.int .i64 0].toArray/\ShM 91 w' b S/\w.heap.size<=b/\S.wf)\/(apx B=none/\u = .tuple [.pointer none,.int .i64 210].toArray))/\Chg [] w w':=by
 have f:=crf w;have l1:=hg;refine zE1 Tryz.func25 rfl ?_;refine Sr λ_ i6=>za rfl (za rfl (zz (i6 ?_)));refine Sq λ_ i5 _ i1=>?_;refine zm rfl ?_;refine WL.ev (Ev.build (vs:=_) (cs:=[_,_]) rfl rfl) rfl ?_;refine zBh rfl rfl rfl f λG m3 d0 l2 k2 e4 f=>?_;refine za rfl ?_;refine WL.nil (i1 _ _ _ ?_);have A:TpM (G+1) _ G B 0 false:=⟨a,c,by rw[Nat.sub_zero];exact d0,by rw[List.drop_zero];exact hr.q8 f,Nat.zero_le _,by omega,Nat.lt_succ_self _,λad e=>by have:=l3 ad e;omega⟩;have i8:=d0.lt;refine i5 _ _ _ ?_;refine Sq λ_ i4 _ i0=>?_;refine WL.ev (Ev.build (vs:=_) (cs:=[_,_,_,_,_,_,_,_,_,_,_,_,_,_]) rfl rfl) rfl ?_;refine zBh rfl rfl rfl f λF m0 d d2 k1 e3 f=>?_;have A:=A.q8 d2;refine za rfl ?_;refine WL.nil (i0 _ _ _ ?_);have a8:G+1<=F:=by omega
 refine i4 _ _ _ ?_;refine zc λ_ i3=>zc λ_ i2=>?_;refine CW.cQ 27 rfl dZ λp5 h9 g a9=>?_;have f:=f.ta a9;have d:=d.q8 a9;have A:=A.q8 a9;have a4:=d;refine wh 0 rfl g (eM rfl) (wh 1 rfl g (eP rfl) (wh 2 rfl g (eF rfl) (wh 3 rfl g (eF rfl) (wh 4 rfl g (eM rfl) (wh 5 rfl g (eP rfl) (wh 6 rfl g (eF rfl) (wh 7 rfl g (eF rfl) (wh 8 rfl g (eM rfl) (wh 9 rfl g (eP rfl) (wh 10 rfl g (eF rfl) (wh 11 rfl g (eF rfl) (wh 12 rfl g (eM rfl) (wh 13 rfl g (eP rfl) (wh 14 rfl g (eF rfl) (wh 15 rfl g (eF rfl) (wh 16 rfl g (eM rfl) (wh 17 rfl g (eP rfl) (wh 18 rfl g (eF rfl) (wh 19 rfl g (eF rfl) (wh 20 rfl g (eM rfl) (wh 21 rfl g (eP rfl) (wh 22 rfl g (eF rfl) (wh 23 rfl g (eF rfl) ?_)))))))))))))))))))))));refine wh 26 rfl g (eM rfl) ?_;refine WH.bhj (m:=6) (cs:=[.pointer (some ⟨F,0,none⟩),.pointer (some ⟨F,1,none⟩),.pointer (some ⟨F,2,none⟩),.pointer (some ⟨F,3,none⟩),.pointer (some ⟨F,4,none⟩),.pointer (some ⟨F,5,none⟩)]) 24 rfl oR g oD oD rfl oR rfl λc8 o3 a7 g=>?_;have T:=a7.at_;have i9:=a7.ge;have m9:=d.lt;have A:=A.q8 a7.chg;have d:=d.q8 a7.chg;have f:=f.trans (Chg.any a7.chg);refine wh 25 rfl g (λ_ _=>Ev.len rfl) ?_;refine WH.done oR (h9 _ _ _ ?_);refine i2 (CW.block ?_);refine CW.loop (S:=λi:Nat=>[(2,.pointer none),(3,.int .i64 0),(4,.pointer (some ⟨G,0,none⟩)),(5,.pointer (some ⟨F,0,none⟩)),(37,.slice (some ⟨c8,0,none⟩) 6 6),(38,.int .i64 6),(39,.int .i64 (i:Int))]) (Inv:=KDc G F c8 B w) (mu:=λi=>6-i) (0) ?_ ?_ ?_
 ·exact ⟨Nat.zero_le _,A,d,T,f⟩
 ·exact SLp
 rintro i wr ⟨J,A,d,T,f⟩;have m8:c8≠F/\c8≠G:=⟨by omega,by omega⟩;refine Sr λ_ g0=>zL rfl rfl (zz (g0 (zc λ_ f9=>?_)));refine zy rfl ?_ ?_<;>intro d9<;>try simp only[qs] at d9
 ·have c3:i<6:=by have:=d9;omega
  have c2:=rdK_len B i;refine zkk (f9 (zc λ_ f8=>CW.block (Sr λ_ f7=>?_)));refine WL.ev (Ev.ixB (i) rfl rfl oO oO) rfl ?_;refine WL.ev (Ev.load (v:=.pointer (some ⟨F,i,none⟩)) rfl rfl (T.at_ (ptr6 c3))) rfl ?_;refine za rfl (zz (f7 ?_));refine zR λ_ e9=>?_;refine zm rfl (zm rfl ?_);refine WL.call hasF80 rfl rfl (count_spec21 (G+1) G _ B _ _ A hL hB) λv w1 h'=>?_;obtain ⟨rfl,A,C⟩:=h';have d:=d.dJ C oT;have T:=T.dJ C oT;have f:=f.step C (λy hy=>.inr (by rw[List.mem_singleton.1 hy];omega));have g5:rdK B (i+1)=((rdK B i).1++[(rdC B (rdK B i).2.1 (rdK B i).2.2).1],(rdC B (rdK B i).2.1 (rdK B i).2.2).2):=by rw[rdK]
  refine zP rfl ?_;refine WL.bJ rfl rfl rfl d (by show i<14;omega) rfl λn9 k b8=>?_;rw[cells14_set c2 c3] at k;have A:=A.q9 d b8 (by intro v hv;simp only[c9j,List.mem_cons,List.not_mem_nil,or_false] at hv;rcases hv with rfl|rfl|rfl|rfl|rfl|rfl|rfl|rfl|rfl|rfl|rfl|rfl|rfl|rfl<;>rfl) a8;have T:=T.dJ b8 oT;have f:=f.step b8 (λy hy=>.inr (by rw[List.mem_singleton.1 hy];omega));have d:=k;refine WL.nil (e9 _ _ _ (f8 ?_));refine zS λ_ e8=>?_;(first|refine zi rfl rfl ?_|refine zo rfl rfl ?_);refine zm rfl (zz (e8 ?_));refine ⟨rfl,i+1,?_,?_,?_⟩
  ·exact SLp
  ·refine ⟨by omega,?_,?_,T,f⟩
   · rw[g5];exact A
   rw[g5];exact d
  show 6-(i+1)<6-i;omega
 have c3:i=6:=by have:=d9;omega
 subst c3;have c2:=rdK_len B 6;have Z:=rdK_le B 6;generalize hRK:rdK B 6=RK at *;obtain ⟨l,p6,d6⟩:=RK
 try dsimp only
 dsimp only at A d c2 Z;obtain ⟨n1,n2,n3,n4,n5,n6,rfl⟩:=list6 c2;obtain ⟨s,hs⟩ : ∃ s:SP,s=auj [n1,n2,n3,n4,n5,n6]:=⟨_,rfl⟩;have Y:s.le 1099511627776:=by rw[hs];exact ⟨Z _ (by simp[auj]),Z _ (by simp[auj]),Z _ (by simp[auj]),Z _ (by simp[auj]),Z _ (by simp[auj]),Z _ (by simp[auj])⟩
 have d:BK wr F 91 [.int .i64 (s.na:Int),.int .i64 (s.up:Int),.int .i64 (s.dn:Int),.int .i64 (s.mi:Int),.int .i64 (s.pl:Int),.int .i64 (s.al:Int),.bool false,.slice none 0 0,.int .i64 0,.bool false,.slice none 0 0,.int .i64 0,.float .f64 0,.float .f64 0]:=by rw[hs];exact d
 obtain ⟨q6,q5,q4,q3,q0,p9⟩:=id Y;refine CW.exit ?_;refine i3 (zc λ_ f6=>?_);refine CW.azx 67 (decide (d6=true\/(Sh.mk s Dy.zero Dy.zero 0 0).fin<(s.mi:Int)+s.pl)) ?_ ?_
 ·intro r;refine CW.cQ 20 rfl dZ λm6 c9 g a9=>?_;have r:=r.ta a9;have d:=d.q8 a9;have A:=A.q8 a9;have a4:=d;obtain ⟨at8,r4,c4,i7,-⟩:=id A;have e0:=c4;refine wh 0 rfl g (eM rfl) (wh 1 rfl g (eP rfl) (wh 2 rfl g (eF rfl) (wh 3 rfl g (λ_ b4=>Ev.load (v:=.bool d6) rfl rfl ((e0.q8 b4).at_ rfl)) ?_)));cases d6
  ·refine wh 4 rfl g (eM rfl) (wg 5 rfl rfl rfl rfl rfl g (eM rfl) (wg 7 rfl rfl rfl rfl rfl g (eM rfl) (wg 8 rfl rfl rfl rfl rfl g (eP rfl) (wg 9 rfl rfl rfl rfl rfl g (eF rfl) (wg 10 rfl rfl rfl rfl rfl g (eF rfl) (wg 11 rfl rfl rfl rfl rfl g (λ_ b4=>Ev.load rfl rfl ((a4.q8 b4).at_ rfl)) (wg 12 rfl rfl rfl rfl rfl g (eM rfl) (wg 13 rfl rfl rfl rfl rfl g (eP rfl) (wg 14 rfl rfl rfl rfl rfl g (eF rfl) (wg 15 rfl rfl rfl rfl rfl g (eF rfl) (wg 16 rfl rfl rfl rfl rfl g (λ_ b4=>Ev.load rfl rfl ((a4.q8 b4).at_ rfl)) (wg 17 rfl rfl rfl rfl rfl g (λ_ _=>Ev.kQ rfl rfl oO) ?_))))))))))));refine WH.rX 6 rfl oR rfl rfl rfl rfl hasF78 rfl rfl (akx F (Sh.mk s Dy.zero Dy.zero 0 0) _ ⟨_,_,d,(by rw[show (Sh.mk s Dy.zero Dy.zero 0 0).V.m=0 from rfl,fX];exact NU.nil),(by rw[show (Sh.mk s Dy.zero Dy.zero 0 0).Q.m=0 from rfl,fX];exact NU.nil)⟩ Y) λv w2 h'=>?_;obtain ⟨rfl,C⟩:=h';have r:=r.ta C;have g:=g.trans C;refine ⟨g,?_⟩;refine wg 18 rfl rfl rfl rfl rfl g (λ_ _=>Ev.lss rfl rfl) (wh 19 rfl g (λ_ _=>Ev.aox rfl rfl rfl) ?_);refine WH.done oR (c9 _ _ _ ?_);refine ⟨rfl,r,j0.g8 rfl ?_ ?_⟩
   ·exact AqE
   exact SMg
  refine wh 4 rfl g (eM rfl) (wp 5 rfl rfl rfl rfl rfl g (wp 7 rfl rfl rfl rfl rfl g (wp 8 rfl rfl rfl rfl rfl g (wp 9 rfl rfl rfl rfl rfl g (wp 10 rfl rfl rfl rfl rfl g (wp 11 rfl rfl rfl rfl rfl g (wp 12 rfl rfl rfl rfl rfl g (wp 13 rfl rfl rfl rfl rfl g (wp 14 rfl rfl rfl rfl rfl g (wp 15 rfl rfl rfl rfl rfl g (wp 16 rfl rfl rfl rfl rfl g (wp 17 rfl rfl rfl rfl rfl g ?_))))))))))));refine WH.a0x 6 rfl oR rfl rfl rfl rfl g rfl ?_;refine wp 18 rfl rfl rfl rfl rfl g (wh 19 rfl g (λ_ _=>Ev.aeq rfl rfl rfl) ?_);refine WH.done oR (c9 _ _ _ ?_);refine ⟨rfl,r,j0.g8 rfl ?_ ?_⟩
  ·exact AqE
  exact SMg
 intro wM r;have f:=f.ta r;have d:=d.q8 r;have A:=A.q8 r;refine zy rfl ?_ ?_<;>intro d5<;>try simp only[qs] at d5
 ·have h1:d6=true\/(Sh.mk s Dy.zero Dy.zero 0 0).fin<(s.mi:Int)+s.pl:=by simpa using d5
  have hD:apx B=none:=by unfold apx;rw[hRK];exact if_pos (by rw[hs] at h1;exact h1)
  refine Sr λ_ f5=>za rfl (za rfl (zz (f5 ?_)));refine zr (zr2 rfl rfl rfl ?_);refine ⟨.inr ⟨hD,rfl⟩,f⟩
 have h1 : ¬(d6=true\/(Sh.mk s Dy.zero Dy.zero 0 0).fin<(s.mi:Int)+s.pl):=by simpa using d5
 have h0:apx B=d2x B s (rdD B p6 d6):=by unfold apx;rw[hRK];dsimp only;rw[<- hs];exact if_neg h1
 refine zkk (f6 (Sr λ_ f4=>zm rfl (zm rfl (zm rfl ?_))));refine WL.call hasF81 rfl rfl (daj (G+1) G p6 B d6 _ A hL hB (Nat.le_trans a8 (Nat.le_of_lt d.lt))) λv w3 h'=>?_;obtain ⟨b2,rfl,h,A,C⟩:=h';have hV:=dij hB (p:=p6) (bad:=d6);generalize hRV:rdD B p6 d6=RV at *;obtain ⟨t,j,U,I,H⟩:=RV
 try dsimp only
 dsimp only at A h hV h0;have r1:=h.one;have d:=d.dJ C oT;have f:=f.step C (λy hy=>.inr (by rw[List.mem_singleton.1 hy];omega));refine zm rfl ?_;refine WL.call hasF81 rfl rfl (daj (G+1) G I B H _ A hL hB (Nat.le_trans a8 (Nat.le_of_lt d.lt))) λv w4 h'=>?_;obtain ⟨b1,rfl,o,b9,C⟩:=h';have h:=h.dqx A C;have A:=b9;have hQ:=dij hB (p:=I) (bad:=H);have l4:apx B=decV B s (t,j,U,I,H) (rdD B I H):=h0;generalize hRQ:rdD B I H=RQ at *;obtain ⟨x,n,X,O,M⟩:=RQ
 try dsimp only
 dsimp only at A o hQ;have r0:=o.one;have d:=d.dJ C oT;have f:=f.step C (λy hy=>.inr (by rw[List.mem_singleton.1 hy];omega));refine zP rfl (zf rfl ?_);refine zss rfl rfl ao d rfl λl9 k a3=>?_;(try simp only[qt] at k);have f:=f.s1 a3;have A:=A.q9 d a3 an;have h:=h.q9 d a3 an;have o:=o.q9 d a3 an;have d:=k;refine zP rfl (zf rfl ?_);refine zss rfl rfl ao d rfl λl8 k a2=>?_;(try simp only[qt] at k);have f:=f.s1 a2;have A:=A.q9 d a2 an;have h:=h.q9 d a2 an;have o:=o.q9 d a2 an;have d:=k;refine zz (f4 ?_);refine CW.anj (λD s' w'=>D=[]/\(∃ R J q bd,rdE (decide (s.na<s.al)) B O M=(R,J,q,bd)/\R<18446744073709551616/\J<18446744073709551616/\TpM (G+1) w' G B q bd/\BK w' F 91 [.int .i64 (s.na:Int),.int .i64 (s.up:Int),.int .i64 (s.dn:Int),.int .i64 (s.mi:Int),.int .i64 (s.pl:Int),.int .i64 (s.al:Int),.bool t,b2,.int .i64 U,.bool x,b1,.int .i64 X,.float .f64 R,.float .f64 J])/\NU w' b2 j/\NU w' b1 n/\Chg [] w w'/\j0 [(2,.pointer none),(3,.int .i64 0),(4,.pointer (some ⟨G,0,none⟩)),(5,.pointer (some ⟨F,0,none⟩))] s') ?_ ?_
 ·refine Sr λ_ f3=>zm rfl ?_;refine WL.call hasF47 rfl rfl (dcx F s _ _ _ _ _ _ _ _ _ d Y) λv w5 h'=>?_;obtain ⟨rfl,C⟩:=h';have f:=f.ta C;have d:=d.q8 C;have A:=A.q8 C;have h:=h.q8 C;have o:=o.q8 C;refine zz (f3 ?_);refine zy rfl ?_ ?_<;>intro d4<;>try simp only[qs] at d4
  ·have d1:s.na<s.al:=by simpa using d4
   refine zS λ_ e7=>zm rfl (zm rfl (zm rfl ?_));refine WL.call hasF83 rfl rfl (ajj (G+1) G _ B _ 8 _ A hL hB oD) λv w6 h'=>?_;obtain ⟨rfl,b9,C⟩:=h';have h:=h.dqx A C;have o:=o.dqx A C;have A:=b9;have g3:=csx hB O M 8 oD;generalize hR1:rdN B O M 8=R1 at *;obtain ⟨m1,q1,x1⟩:=R1;dsimp only at A g3;dsimp only;have d:=d.dJ C oT;have f:=f.step C (λy hy=>.inr (by rw[List.mem_singleton.1 hy];omega));refine WL.ev (Ev.ext rfl (ext82 _ _)) rfl ?_;refine zm rfl ?_;refine WL.call hasF83 rfl rfl (ajj (G+1) G _ B _ 8 _ A hL hB oD) λv w7 h'=>?_;obtain ⟨rfl,b9,C⟩:=h';have h:=h.dqx A C;have o:=o.dqx A C;have A:=b9;have g2:=csx hB q1 x1 8 oD;generalize hR2:rdN B q1 x1 8=R2 at *;obtain ⟨m2,q2,x2⟩:=R2;dsimp only at A g2;dsimp only;have d:=d.dJ C oT;have f:=f.step C (λy hy=>.inr (by rw[List.mem_singleton.1 hy];omega));refine WL.ev (Ev.ext rfl (ext82 _ _)) rfl ?_;refine zP rfl (zf rfl ?_);refine WL.bJ rfl rfl o1 d oS rfl λl7 k a1=>?_;(try simp only[qt] at k);have f:=f.s1 a1;have A:=A.q9 d a1 an;have h:=h.q9 d a1 an;have o:=o.q9 d a1 an;have d:=k;refine zP rfl (zf rfl ?_);refine WL.bJ rfl rfl o1 d oS rfl λl6 k a0=>?_;(try simp only[qt] at k);have f:=f.s1 a0;have A:=A.q9 d a0 an;have h:=h.q9 d a0 an;have o:=o.q9 d a0 an;have d:=k;refine zz (e7 ?_);refine ⟨rfl,⟨m1,m2,q2,x2,?_,g3,g2,A,?_⟩,h,o,f,(by first|((repeat (first|exact j0.refl|refine j0.oZ (by rfl) ?_));done)|((repeat (first|exact j0.nil|refine j0.cons rfl ?_));done))⟩
   · unfold rdE;rw[if_pos (decide_eq_true d1),hR1];dsimp only;rw[hR2]
   exact d
  have d1 : ¬s.na<s.al:=by simpa using d4
  refine zkk ?_;refine ⟨rfl,⟨0,0,O,M,?_,by decide,by decide,A,d⟩,h,o,f,(by first|((repeat (first|exact j0.refl|refine j0.oZ (by rfl) ?_));done)|((repeat (first|exact j0.nil|refine j0.cons rfl ?_));done))⟩;unfold rdE;rw[if_neg (by simpa using d1)]
 rintro _ s' wJ ⟨rfl,⟨R,J,q,bd,hE,b5,b6,A,d⟩,h,o,f,g1⟩;refine CW.sub g1 ?_;have g9:apx B=decE B s (t,j,U,I,H) (x,n,X,O,M) (R,J,q,bd):=by rw[l4,<- hE];rfl
 have b0:bd=false->M=false:=λz=>bzx hE z;have b7:bd=false->H=false:=λz=>rdD_mono hRQ (b0 z);refine zc λ_ f2=>?_;refine CW.azx 117 (decide (bd=true\/0<B.length-q\/¬sQ (oQ s (t,j,U,I,H) (x,n,X,O,M) R J)\/((oQ s (t,j,U,I,H) (x,n,X,O,M) R J).some/\¬vX (oQ s (t,j,U,I,H) (x,n,X,O,M) R J)))) ?_ ?_
 ·intro r;obtain ⟨h4,h2,c4,i7,-⟩:=id A;refine zS λ_ a6=>zm rfl (zP rfl (zf rfl ?_));refine WL.ev (Ev.load (v:=.bool bd) rfl rfl (c4.at_ rfl)) rfl ?_;refine zm rfl ?_;refine zb ?_ ?_<;>intro l0<;>try simp only[qs] at l0
  ·refine zv rfl (zv rfl (zv rfl (zv rfl (zv rfl (zv rfl (zt rfl rfl (zm rfl (zv rfl (zv rfl (zv rfl (zt rfl rfl (zm rfl (zv rfl (zv rfl (zv rfl (zu rfl (zu rfl (zu rfl (zv rfl (zt rfl rfl (zz (a6 ?_))))))))))))))))))))));refine ⟨rfl,r,j0.g8 rfl ?_ ?_⟩
   ·first|(refine (decide_eq_true ?_).symm;simp_all;done)|(refine (decide_eq_false ?_).symm;simp_all;done)|(refine (decide_eq_true (.inr (.inl ?_))).symm;omega)|(by_cases he:vX (oQ s (t,j,U,I,H) (x,n,X,O,M) R J)<;>simp_all [Sh.some,oQ];done)|(refine decide_eq_decide.2 ?_;simp_all;done)
   exact SMg
  refine zw rfl (zm rfl (zw rfl (zP rfl (zw rfl (zf rfl (zw rfl ?_))))));refine WL.ev (Ev.load (v:=.slice h4 (B.length-q) h2) rfl rfl (c4.at_ rfl)) rfl ?_;refine zw rfl (zn rfl (zw rfl (zG rfl rfl (ze rfl rfl (zm rfl ?_)))));refine zb ?_ ?_<;>intro k5<;>try simp only[qs] at k5
  ·refine zv rfl (zv rfl (zv rfl (zt rfl rfl (zm rfl (zv rfl (zv rfl (zv rfl (zu rfl (zu rfl (zu rfl (zv rfl (zt rfl rfl (zz (a6 ?_))))))))))))));refine ⟨rfl,r,j0.g8 rfl ?_ ?_⟩
   ·first|(refine (decide_eq_true ?_).symm;simp_all;done)|(refine (decide_eq_false ?_).symm;simp_all;done)|(refine (decide_eq_true (.inr (.inl ?_))).symm;omega)|(by_cases he:vX (oQ s (t,j,U,I,H) (x,n,X,O,M) R J)<;>simp_all [Sh.some,oQ];done)|(refine decide_eq_decide.2 ?_;simp_all;done)
   exact SMg
  refine zw rfl (zm rfl (zw rfl ?_));refine WL.call hasF84 rfl rfl (sums_spec21 F (oQ s (t,j,U,I,H) (x,n,X,O,M) R J) _ ⟨b2,b1,d,(by rw[show (oQ s (t,j,U,I,H) (x,n,X,O,M) R J).V.m=val j from rfl,(hV (b7 oA)).1];exact h),(by rw[show (oQ s (t,j,U,I,H) (x,n,X,O,M) R J).Q.m=val n from rfl,(hQ (b0 oA)).1];exact o)⟩ Y (hV (b7 oA)).2 (hQ (b0 oA)).2 (l1.q8 f)) λv w8 h'=>?_;obtain ⟨rfl,C⟩:=h';have r:=r.ta C;have d:=d.q8 C;have h:=h.q8 C;have o:=o.q8 C;refine zw rfl (zT rfl (ze rfl rfl (zm rfl ?_)));refine zb ?_ ?_<;>intro k4<;>try simp only[qs] at k4
  ·refine zv rfl (zv rfl (zv rfl (zu rfl (zu rfl (zu rfl (zv rfl (zt rfl rfl (zz (a6 ?_)))))))));refine ⟨rfl,r,j0.g8 rfl ?_ ?_⟩
   ·first|(refine (decide_eq_true ?_).symm;simp_all;done)|(refine (decide_eq_false ?_).symm;simp_all;done)|(refine (decide_eq_true (.inr (.inl ?_))).symm;omega)|(by_cases he:vX (oQ s (t,j,U,I,H) (x,n,X,O,M) R J)<;>simp_all [Sh.some,oQ];done)|(refine decide_eq_decide.2 ?_;simp_all;done)
   exact SMg
  refine zw rfl (zm rfl (zw rfl ?_));refine WL.call hasF47 rfl rfl (dcx F s _ _ _ _ _ _ _ _ _ d Y) λv w9 h'=>?_;obtain ⟨rfl,C⟩:=h';have r:=r.ta C;have d:=d.q8 C;have h:=h.q8 C;have o:=o.q8 C;refine zw rfl (zm rfl ?_);refine zb ?_ ?_<;>intro k3<;>try simp only[qs] at k3
  ·refine zw rfl (zm rfl (zw rfl ?_));refine WL.call hasF85 rfl rfl (ends_spec21 F (oQ s (t,j,U,I,H) (x,n,X,O,M) R J) _ ⟨b2,b1,d,(by rw[show (oQ s (t,j,U,I,H) (x,n,X,O,M) R J).V.m=val j from rfl,(hV (b7 oA)).1];exact h),(by rw[show (oQ s (t,j,U,I,H) (x,n,X,O,M) R J).Q.m=val n from rfl,(hQ (b0 oA)).1];exact o)⟩ Y b5 b6) λv o4 h'=>?_
   obtain ⟨rfl,C⟩:=h';have r:=r.ta C;refine zw rfl (zT rfl (zw rfl (zt rfl rfl (ze rfl rfl (zz (a6 ?_))))));refine ⟨rfl,r,j0.g8 rfl ?_ ?_⟩
   ·first|(refine (decide_eq_true ?_).symm;simp_all;done)|(refine (decide_eq_false ?_).symm;simp_all;done)|(refine (decide_eq_true (.inr (.inl ?_))).symm;omega)|(by_cases he:vX (oQ s (t,j,U,I,H) (x,n,X,O,M) R J)<;>simp_all [Sh.some,oQ];done)|(refine decide_eq_decide.2 ?_;simp_all;done)
   exact SMg
  refine zv rfl (zv rfl (zv rfl (zw rfl (ze rfl rfl (ze rfl rfl (zz (a6 ?_)))))));refine ⟨rfl,r,j0.g8 rfl ?_ ?_⟩
  ·first|(refine (decide_eq_true ?_).symm;simp_all;done)|(refine (decide_eq_false ?_).symm;simp_all;done)|(refine (decide_eq_true (.inr (.inl ?_))).symm;omega)|(by_cases he:vX (oQ s (t,j,U,I,H) (x,n,X,O,M) R J)<;>simp_all [Sh.some,oQ];done)|(refine decide_eq_decide.2 ?_;simp_all;done)
  exact SMg
 intro wM r;have f:=f.ta r;have d:=d.q8 r;have h:=h.q8 r;have o:=o.q8 r;refine zy rfl (λd3=>?_) λd3=>?_
 ·skip;have h3:bd=true\/0<B.length-q\/¬sQ (oQ s (t,j,U,I,H) (x,n,X,O,M) R J)\/((oQ s (t,j,U,I,H) (x,n,X,O,M) R J).some/\¬vX (oQ s (t,j,U,I,H) (x,n,X,O,M) R J)):=of_decide_eq_true d3;refine Sr λ_ f1=>za rfl (za rfl (zz (f1 ?_)));refine zr (zr2 rfl rfl rfl ?_);refine ⟨.inr ⟨?_,rfl⟩,f⟩;rw[g9];exact if_pos h3
 skip;have h3 : ¬(bd=true\/0<B.length-q\/¬sQ (oQ s (t,j,U,I,H) (x,n,X,O,M) R J)\/((oQ s (t,j,U,I,H) (x,n,X,O,M) R J).some/\¬vX (oQ s (t,j,U,I,H) (x,n,X,O,M) R J))):=of_decide_eq_false d3;have c5:bd=false:=Bool.eq_false_iff.2 (λz=>h3 (.inl z));refine zkk (f2 (Sr λ_ f0=>zm rfl (za rfl (za rfl (zz (f0 ?_))))));refine zr (zr2 rfl rfl rfl ?_);refine ⟨.inl ⟨(oQ s (t,j,U,I,H) (x,n,X,O,M) R J),F,?_,rfl,⟨b2,b1,d,(by rw[show (oQ s (t,j,U,I,H) (x,n,X,O,M) R J).V.m=val j from rfl,(hV (b7 c5)).1];exact h),(by rw[show (oQ s (t,j,U,I,H) (x,n,X,O,M) R J).Q.m=val n from rfl,(hQ (b0 c5)).1];exact o)⟩,by omega,⟨Y,(hV (b7 c5)).2,(hQ (b0 c5)).2,b5,b6⟩⟩,f⟩;rw[g9];exact if_neg h3
def rdRec(bs:List Nat):Nat×List Nat×List Nat:=
  if bs.getD 0 0<1\/64<bs.getD 0 0 then (1,[],[]) else if bs.length<4+bs.getD 0 0 then (2,[],[]) else
  if bs.length<4+bs.getD 0 0+leV ((bs.drop (1+bs.getD 0 0)).take 3)+4 then (2,[],[]) else
  if (bs.drop (4+bs.getD 0 0+leV ((bs.drop (1+bs.getD 0 0)).take 3))).take 4≠leB (fnv (bs.take (4+bs.getD 0 0+leV ((bs.drop (1+bs.getD 0 0)).take 3)))) 4 then (3,[],[]) else
  if apx ((bs.drop (4+bs.getD 0 0)).take (leV ((bs.drop (1+bs.getD 0 0)).take 3)))=none then (4,[],[]) else (0,(bs.drop 1).take (bs.getD 0 0),(bs.drop (4+bs.getD 0 0)).take (leV ((bs.drop (1+bs.getD 0 0)).take 3)))
structure GE(w:World)(ev:Nat->Value):Prop where
  a:w.cell? ⟨2,0,none⟩=some (ev 1)
  b:w.cell? ⟨3,0,none⟩=some (ev 2)
  c:w.cell? ⟨4,0,none⟩=some (ev 3)
  d:w.cell? ⟨5,0,none⟩=some (ev 4)
namespace Sx
section
variable {P:Program} {s:Sl} {w:World} {ty:TypeId} {x:Operand}
section
variable {P:Program} {ops:Array Oper} {K:KK} {fuel:Nat} {listed:Array Bool} {n:Nat} {D:List Deferred} {s:Sl} {w:World} {ty:TypeId} {pos:String} {af:Array Edge}
end
end
end Sx
end
namespace Sx
open Go
abbrev RO(r:Option Nat):Fence:={ Fence.wide with round:=r }
def noDef(l:List Oper):Bool:=l.all λo=>match o.op with
  | .defer _=>false
  | _=>true
section
variable {P:Program} {r:Option Nat} {m:Nat}
def CWI(r:Option Nat)(P:Program)(c:Code)(A:AQ)(n:Nat)(D:List Deferred)(s:Sl)(w:World):Prop:=∀ a,Fr n D s a->c.wpIn (RO r) 3 P (d8q n A) a w
def WLI(r:Option Nat)(P:Program)(ops:Array Oper)(K:KK)(l:List Oper)(n:Nat)(D:List Deferred)(s:Sl)(w:World):Prop:=∀ a,Fr n D s a->wpListIn (RO r) 3 P ops (post n K) l a w
variable {A:AQ} {n:Nat} {D:List Deferred} {s:Sl} {w:World} {ops:Array Oper} {K:KK}
variable {rest:List Oper} {ty:TypeId} {pos:String} {af:Array Edge} {d:Nat}
structure LoopAt(n:Nat)(s:Sl)(ps:Array Tmp)(assign body:Code)(st:LoopState)(pend:Option Code)(l k:Nat)(w:World):Prop where
  rec_ : ∃ x:Loop,w.heap[l]?=some (.loop x)/\x.state=st/\x.pending=pend/\x.params=ps/\x.assign=assign/\x.body=body/\Fr n [] s { tmps:=x.tmps,defers:=[] }
  dfr:w.heap[k]?=some (.deferred (some []))
variable {ps:Array Tmp} {assign body:Code} {st:LoopState} {pend:Option Code} {l k:Nat}
abbrev mk_(k:Nat):Deferred:={ target:=.collected k,args:=#[] }
def bodyM(P:Program)(fn:Func)(n:Nat)(R:Value->World->Prop):AQ
  | .normal,D,s,w | .ret,D,s,w=>(D=[]/\∃ v,ResS P fn n D s w v/\R v w)\/(∃ k,D=[mk_ k]/\w.heap[k]?=some (.deferred (some []))/\∀ w',Chg [k] w w'->∃ v,ResS P fn n D s w' v/\R v w')
  | _,_,_,_=>False
end
end Sx
section
open Go Sx Wd Fl
namespace Sx
section
variable {P:Program} {s:Sl} {w:World} {ty:TypeId} {x:Operand}
end
end Sx
def evV(ea:Nat->Addr)(c:Nat):Value:=.iface 331 (.pointer (some (ea c)))
inductive Wk (bs:List Nat):List (ByteArray×List Nat)->Nat->Prop
  | nil:Wk bs [] 0
  | step {R:List (ByteArray×List Nat)} {p:Nat} {nm dat:List Nat} : Wk bs R p->p<bs.length->rdRec (bs.drop p)=(0,nm,dat)->Wk bs (R++[(bA nm,dat)]) (p+(8+nm.length+dat.length))
end
section
open Go Sx Wd Fl
def NoC(w:World)(k:Nat):Prop:=∀ c e z,w.heap[k]?≠some (.cells c e z)
section
variable {w w':World} {k:Nat}
end
namespace Sx
section
variable {P:Program} {n:Nat} {D:List Deferred} {s:Sl} {w:World} {ty:TypeId} {x:Operand} {fn:Func} {R:Value->World->Prop}
end
end Sx
end
section
open Go Sx Wd Fl
def tellG(G:List RG):List (ByteArray×List Nat):=G.map λg=>(g.1,g.2.1)
structure RepJ(w:World)(bl b2 b3 b4 b5 cb m cl:Nat)(al:Option Addr)(LA:LoopState->Option Code->World->Prop)(R:List (ByteArray×List Nat))(p:Nat)(W:World):Prop where
  ex : ∃ G,tellG G=R/\LgM w.heap.size W bl G/\totG G=p
  la:LA .ready none W
  h2:BK W b2 46 [.pointer none]
  h3:BK W b3 3 [.int .i64 0]
  h4:BK W b4 47 [.int .i64 0]
  h5:BK W b5 46 [.pointer (some ⟨bl,0,none⟩)]
  hc:BK W cb 35 [.slice al m cl]
  ch:Chg [] w W
structure RepE(lo bl k:Nat)(G:List RG)(w:World):Prop where
  lg:LgM lo w bl G
  kd:w.heap[k]?=some (.deferred (some []))
namespace Sx
theorem Ev.neqStr{P:Program}{s:Sl}{w:World}{ty:TypeId}{x y:Operand}{t t':TypeId}{a b:ByteArray}(f:k6 s x=some (.string a))(e:k6 s y=some (.string b)):Ev P s (.binOp .neq t x y t') ty w (.bool (decide (a≠b))) w:=λρ d pos af g hρ=>by
  have e1:=hρ x _ f
  have e2:=hρ y _ e
  have e3:(!(a.toList==b.toList))=decide (a≠b):=by
    rw[ByteArray.toList_eq,ByteArray.toList_eq]
    by_cases h:a=b
    · subst h;simp
    · have:a.data.toList≠b.data.toList:=λq=>h (by cases a;cases b;congr 1;exact Array.ext' q)
      rw[decide_eq_true h,beq_eq_false_iff_ne.2 this];rfl
  simp[execOp,e1,e2,eqGuard,binOp_string_neq,e3]
end Sx
theorem ShM.q9{T T':TypeId}{w w':World}{b c:Nat}{S:Sh}{cs:List Value}(h:ShM T w b S)(g:BK w c T' cs)(f:Chg [c] w w')(i : ∀ x∈cs,xX x=false)(d:T≠T':=by decide):ShM T w' b S:=by
  obtain ⟨j,k,a,m,l⟩:=h
  refine ⟨j,k,a.dJ f (λe=>?_),m.q9 g f i,l.q9 g f i⟩
  have e:=List.mem_singleton.1 e
  subst e
  have:=a.symm.trans g
  simp at this
  exact d this.2
end
section
open Go Sx Wd Fl
theorem one_al(x:Nat):(Sh.one x).s.al=1:=rfl
set_option exponentiation.threshold 9000
def acx(j:Nat)(L:List Nat):Nat:=(L.filter λx=>k8 x==j).length
theorem alj(j:Nat)(L:List Nat)(x:Nat):acx j (x::L)=(if k8 x=j then 1 else 0)+acx j L:=by
  unfold acx
  by_cases h:k8 x=j
  · simp[h];omega
  · simp[h]
theorem cntK_pos{j:Nat}{L:List Nat}: 0<acx j L↔∃ y∈L,k8 y=j:=by
  unfold acx
  rw[List.length_pos_iff_exists_mem]
  constructor
  · rintro ⟨y,a⟩
    rw[List.mem_filter] at a
    exact ⟨y,a.1,by simpa using a.2⟩
  · rintro ⟨y,a,b⟩
    exact ⟨y,List.mem_filter.2 ⟨a,by simpa using b⟩⟩
theorem duj(L:List Nat):acx 0 L+acx 1 L+acx 2 L+acx 3 L+acx 4 L+acx 5 L=L.length:=by
  induction L with
  | nil=>rfl
  | cons x L ih=>
    rw[alj,alj,alj,alj,alj,alj,List.length_cons]
    have:=b7q x
    have h:k8 x=0\/k8 x=1\/k8 x=2\/k8 x=3\/k8 x=4\/k8 x=5:=by omega
    rcases h with h|h|h|h|h|h<;>rw[h]<;>simp<;>omega
theorem aej{x:Nat}(a:x<18446744073709551616):isNaN x=true↔k8 x=5:=by
  rw[uJ a]
  unfold isNaN
  rw[decide_eq_true_eq]
  constructor
  · intro h;rw[if_pos h]
  · intro h
    apply Classical.byContradiction
    intro q
    rw[if_neg q] at h
    split at h
    · omega
    split at h
    · omega
    split at h
    · omega
    split at h<;>omega
theorem c8j{x:Nat}(f:x<18446744073709551616):fvI x≠0↔k8 x=0:=by
  have g:=uJ f
  by_cases hc:(g6 x).cls<=2
  · rw[ne_eq,fvI_nought hc f]
    have e:=b1j.2 hc
    rw[g] at e ⊢
    by_cases a:9218868437227405312<x%9223372036854775808
    · rw[if_pos a] at e;omega
    rw[if_neg a] at e ⊢
    by_cases b:x%9223372036854775808=9218868437227405312/\x/9223372036854775808=1
    · rw[if_pos b] at e;omega
    rw[if_neg b] at e ⊢
    by_cases c:x%9223372036854775808=9218868437227405312
    · rw[if_pos c] at e;omega
    rw[if_neg c]
    by_cases d:x%9223372036854775808=0
    · rw[if_pos d]
      split<;>simp[d]
    · rw[if_neg (λq=>d q.1),if_neg d];simp[d]
  · have e : ¬k8 x<=2:=λq=>hc (b1j.1 q)
    rw[cnq (λq=>hc oO)]
    constructor
    · intro h;exact absurd rfl h
    · intro h;omega
def sqI(x:Nat):Int:=if k8 x=0 then thv (dlj x x) else 0
theorem drq{x:Nat}(h:k8 x=0):(g6 x).cls<=2:=b1j.1 oO
theorem sq_mul{x:Nat}(a:x<18446744073709551616):sqI x*(2^2148:Nat)=fvI x*fvI x:=by
  unfold sqI
  by_cases h:k8 x=0
  · rw[if_pos h];exact daq (drq h) (drq h)
  · have b:fvI x=0:=Classical.byContradiction λq=>h ((c8j a).1 q)
    rw[if_neg h,b,Int.zero_mul,Int.zero_mul]
theorem a6x(a:Int):0<=a*a:=by
  rcases Int.le_total 0 a with h|h
  · exact Int.mul_nonneg h h
  · exact Int.mul_nonneg_of_nonpos_of_nonpos h h
theorem sq_pos{x:Nat}(b:x<18446744073709551616):0<=sqI x/\(k8 x=0->0<sqI x):=by
  have h:=sq_mul b
  have i:=a6x (fvI x)
  have d:(0:Int)<((2^2148:Nat):Int):=by have:=Nat.two_pow_pos 2148;omega
  constructor
  · apply Classical.byContradiction
    intro q
    have:=Int.mul_neg_of_neg_of_pos (show sqI x<0 by omega) d
    omega
  · intro f
    apply Classical.byContradiction
    intro q
    have g:=(c8j b).2 f
    have a:fvI x*fvI x≠0:=λe=>by rcases Int.mul_eq_zero.1 e with e|e<;>exact g e
    rcases Int.lt_or_eq_of_le (show sqI x<=0 by omega) with e|e
    · have:=Int.mul_neg_of_neg_of_pos e d
      omega
    · rw[e,Int.zero_mul] at h;exact a h.symm
theorem sq_lt{x:Nat}(a:x<18446744073709551616):sqI x<((2^4196:Nat):Int):=by
  have b:=Nat.two_pow_pos 4196
  unfold sqI
  by_cases h:k8 x=0
  · rw[if_pos h]
    have:=czq (drq h) (drq h)
    omega
  · rw[if_neg h];omega
def sqS(L:List Nat):Int:=(L.map sqI).sum
theorem sq_bounds{L:List Nat}(o : ∀ x∈L,x<18446744073709551616):0<=sqS L/\(0<acx 0 L->0<sqS L)/\(acx 0 L=0->sqS L=0/\ayj L=0)/\(0<acx 0 L->sqS L<(acx 0 L:Int)*((2^4196:Nat):Int))/\ayj L*ayj L<=(acx 0 L:Int)*(sqS L*((2^2148:Nat):Int)):=by
  induction L with
  | nil=>exact ⟨Int.le_refl _,λh=>absurd h oD,λ_=>⟨rfl,rfl⟩,λh=>absurd h oD,by simp[ayj,sqS,acx]⟩
  | cons x L ih=>
    obtain ⟨n,v,m,l,j⟩:=ih λy hy=>o y (List.mem_cons_of_mem _ hy)
    have d:=o x (List.mem_cons_self ..)
    obtain ⟨O,u⟩:=sq_pos d
    have B:=sq_lt d
    have z:=sq_mul d
    have G:sqS (x::L)=sqI x+sqS L:=by simp[sqS]
    have eA:ayj (x::L)=fvI x+ayj L:=by simp[ayj]
    rw[G,eA,alj]
    generalize hM:((2^4196:Nat):Int)=M at *
    generalize hT:((2^2148:Nat):Int)=T at *
    generalize hA:ayj L=A at *
    generalize hQ:sqS L=Q at *
    generalize ha:fvI x=a at *
    generalize hq:sqI x=q at *
    by_cases hk:k8 x=0
    · rw[if_pos hk]
      have b:=u hk
      refine ⟨by omega,λ_=>by omega,λh=>by omega,λ_=>?_,?_⟩
      · push_cast
        rw[Int.add_mul,Int.one_mul]
        by_cases hc:acx 0 L=0
        · have:=(m hc).1
          rw[hc];simp;omega
        · have:=l oO
          omega
      · -- (a+A)^2 <= (1+k)(q+Q)T,with A^2 <= k Q T and q T=a^2
        push_cast
        generalize hkk:((acx 0 L:Nat):Int)=k at *
        have C:0<=k:=by omega
        have D:0<=Q*T:=Int.mul_nonneg n (by rw[<- hT];omega)
        generalize hz:Q*T=Z at *
        have e:(q+Q)*T=a*a+Z:=by rw[Int.add_mul,z,hz]
        rw[e]
        by_cases hk1:k=0
        · rw[hk1,Int.zero_mul] at j
          have i:A=0:=Classical.byContradiction λf=>by
            have:0<A*A:=by
              have F:=a6x A
              rcases Int.lt_or_eq_of_le F with h|h
              · exact h
              · rcases Int.mul_eq_zero.1 h.symm with h|h<;>exact absurd h f
            omega
          rw[i,hk1]
          simp only[Int.add_zero,Int.one_mul]
          omega
        · have w:=a6x (k*a-A)
          have J:(k*a-A)*(k*a-A)=k*(k*(a*a))-2*(k*(a*A))+A*A:=by
            rw[Int.sub_mul,Int.mul_sub,Int.mul_sub]
            have t:k*a*(k*a)=k*(k*(a*a)):=by rw[Int.mul_assoc,Int.mul_left_comm a k a]
            have s:A*(k*a)=k*(a*A):=by rw[Int.mul_left_comm,Int.mul_comm A a]
            have r:k*a*A=k*(a*A):=Int.mul_assoc ..
            rw[t,s,r];omega
          rw[J] at w
          have U:0<=k*(k*(a*a)-2*(a*A)+Z):=by
            have:k*(k*(a*a)-2*(a*A)+Z)=k*(k*(a*a))-2*(k*(a*A))+k*Z:=by
              rw[Int.mul_add,Int.mul_sub,Int.mul_left_comm k 2]
            rw[this];omega
          have R:0<=k*(a*a)-2*(a*A)+Z:=by
            apply Classical.byContradiction
            intro p
            have:=Int.mul_neg_of_pos_of_neg (show 0<k by omega) (show k*(a*a)-2*(a*A)+Z<0 by omega)
            omega
          have I:(a+A)*(a+A)=a*a+2*(a*A)+A*A:=by
            rw[Int.add_mul,Int.mul_add,Int.mul_add,Int.mul_comm A a];omega
          have H:(1+k)*(a*a+Z)=a*a+Z+(k*(a*a)+k*Z):=by rw[Int.add_mul,Int.one_mul,Int.mul_add]
          rw[I,H]
          omega
    · rw[if_neg hk]
      have g:a=0:=Classical.byContradiction λh=>hk ((c8j d).1 (by rw[ha];exact h))
      have b:q=0:=by rw[<- hq];unfold sqI;rw[if_neg hk]
      rw[g,b,Nat.zero_add,Int.zero_add,Int.zero_add]
      exact ⟨n,v,m,l,j⟩
theorem pow4236 : ∀ a,a=4196->(2:Nat)^(a+42)=4398046511104*2^a:=by
  intro a _;rw[Nat.pow_add,Nat.mul_comm]
end
section
open Go Sx Wd Fl
structure Mk(S:Sh)(L:List Nat):Prop where
  w : ∀ x∈L,x<18446744073709551616
  n:L.length<=1099511627776
  s:S.s=⟨acx 5 L,acx 3 L,acx 4 L,acx 1 L,acx 2 L,L.length⟩
  V:S.V=fQ (ayj L)
  Q:S.Q=fQ (sqS L)
  e:acx 5 L=L.length\/(S.lo∈L/\k8 S.lo≠5/\S.hi∈L/\k8 S.hi≠5/\∀ y∈L,k8 y≠5->key S.lo<=key y/\key y<=key S.hi)
theorem Mk.some_iff{S:Sh}{L:List Nat}(h:Mk S L):S.some↔acx 5 L<L.length:=by
  unfold Sh.some;rw[h.s]
theorem Mk.zero:Mk Sh.zero []:=⟨λx hx=>(by cases hx),oD,rfl,rfl,rfl,.inl rfl⟩
theorem Mk.one{x:Nat}(f:x<18446744073709551616):Mk (Sh.one x) [x]:=by
  refine ⟨λy b=>by rw[List.mem_singleton.1 b];exact f,by simp,?_,?_,?_,?_⟩
  · show countP SP.zero (k8 x)=_
    have e : ∀ j,acx j [x]=if k8 x=j then 1 else 0:=λj=>by rw[alj];rfl
    rw[e,e,e,e,e]
    unfold countP SP.zero
    simp
  · show fdy x=_
    have e:ayj [x]=fvI x:=by simp[ayj]
    rw[e]
    unfold fdy
    split
    · rfl
    · rename_i a;rw[cnq (λq=>a oO)];rfl
  · show (gX (fdy x) (fdy x)).getD Dy.zero=_
    have e:sqS [x]=sqI x:=by simp[sqS]
    rw[e]
    unfold sqI fdy
    by_cases hk:k8 x=0
    · have a:=drq hk
      rw[if_pos a,if_pos hk,mulD_sum a a];rfl
    · have h:fvI x=0:=Classical.byContradiction λq=>hk ((c8j f).1 q)
      rw[if_neg hk,h]
      have : ∀ d,d=Dy.zero->(gX d d).getD Dy.zero=fQ 0:=λd g=>by subst g;unfold gX;rw[show Dy.zero.m*Dy.zero.m=0 from rfl,kX];split<;>rfl
      refine this _ ?_
      split<;>rfl
  · by_cases hk:k8 x=5
    · exact .inl (by rw[alj,if_pos hk];rfl)
    · exact .inr ⟨List.mem_singleton.2 rfl,hk,List.mem_singleton.2 rfl,hk,λy b _=>by rw[List.mem_singleton.1 b];exact ⟨Int.le_refl _,Int.le_refl _⟩⟩
def Sh.noE(S:Sh):Prop:=¬S.some->S.lo=0/\S.hi=0
set_option exponentiation.threshold 9000
theorem kd{x:Nat}(a:x<18446744073709551616):(k8 x=5↔9218868437227405312<x%9223372036854775808)/\(k8 x=4↔x=18442240474082181120)/\(k8 x=3↔x=9218868437227405312)/\(k8 x=1↔x=9223372036854775808)/\(k8 x=2↔x=0):=by
  rw[uJ a]
  refine ⟨?_,?_,?_,?_,?_⟩<;>(repeat' split)<;>constructor<;>intro h<;>omega
theorem key5{x:Nat}(a:x<18446744073709551616)(h:k8 x≠5):isNaN x=false/\x%9223372036854775808<=9218868437227405312/\key x=if 9223372036854775808<=x then -1-((x:Int)-9223372036854775808) else x:=by
  have b:isNaN x=false:=by
    cases q:isNaN x with
    | false=>rfl
    | true=>exact absurd ((aej a).1 q) h
  refine ⟨b,?_,?_⟩
  · have:=(kd a).1
    omega
  · unfold key;rw[b];simp
theorem d7j(x y:Dy):gX x y=gX y x:=by
  unfold gX
  rw[Nat.mul_comm x.m y.m,Int.add_comm x.e y.e]
  have:(x.neg != y.neg)=(y.neg != x.neg):=by cases x.neg<;>cases y.neg<;>rfl
  rw[this]
theorem wlenB{n k:Nat}(h : ∀ c,c=32*k->n<2^c):(wd n).length<=k:=aX.2 (h _ rfl)
theorem cmq{x y:Dy}(h:x.m%2=1)(g:y.m%2=1)(j:x.m<2^4300)(i:y.m<2^4300)(o : -100000<=x.e/\x.e<=100000)(n : -100000<=y.e/\y.e<=100000):gX x y=some ⟨x.neg != y.neg,x.m*y.m,x.e+y.e⟩:=by
  have b:x.m*y.m%2=1:=by rw[Nat.mul_mod,h,g]
  have k:x.m*y.m≠0:=λe=>by rw[e] at b;cases b
  have d:=cex b
  have f:(wd (x.m*y.m)).length<=8192:=wlenB λc l=>by
    have a:x.m*y.m<2^4300*2^4300:=Nat.mul_lt_mul'' j i
    rw[<- Nat.pow_add] at a
    exact Nat.lt_of_lt_of_le a (Nat.pow_le_pow_right oO oO)
  unfold gX
  rw[if_neg oO,sJ k (by rw[d];rw[Nat.pow_zero,Nat.div_one];omega),d,Nat.pow_zero,Nat.div_one]
  simp
theorem sgn_le0{a b:Nat}(h:a<=b):sgn a b<=0:=by
  unfold sgn
  repeat' split
  all_goals omega
theorem b5q{S:Int}(h:InB S)(i:S≠0): ∃ a:Nat,S.natAbs=(fQ S).m*2^a/\(fQ S).e = -2148+(a:Int)/\(fQ S).neg=decide (S<0)/\(fQ S).m%2=1/\(fQ S).m<2^4238/\a<4238:=by
  obtain ⟨a,f,o,n⟩:=b5x h i
  have b:=a2q h
  have k:(fQ S).m≠0:=λe=>i ((bmq h).1 e)
  have g:=h.lt
  have j:=Nat.two_pow_pos a
  have d:(fQ S).m<=S.natAbs:=by rw[f];exact Nat.le_mul_of_pos_right _ j
  refine ⟨a,f,o,n,b.odd k,Nat.lt_of_le_of_lt d g,?_⟩
  have l:2^a<=S.natAbs:=by rw[f];exact Nat.le_mul_of_pos_left _ oO
  exact (Nat.pow_lt_pow_iff_right oO).1 (Nat.lt_of_le_of_lt l g)
theorem Mk.fin{S:Sh}{L:List Nat}(h:Mk S L):S.fin=(acx 0 L:Int)+acx 1 L+acx 2 L/\S.pln=acx 0 L:=by
  have a:=duj L
  unfold Sh.pln Sh.fin
  rw[h.s]
  dsimp only
  omega
theorem ex_of{S:Int}(h:InB S):(-4096<=(fQ S).e/\(fQ S).e<=61439)/\(wd (fQ S).m).length<=160:=by
  by_cases h0:S=0
  · subst h0
    rw[d3q]
    exact ⟨by decide,by show (wd 0).length<=160;rw[fX];decide⟩
  · obtain ⟨a,j,i,g,f,b,d⟩:=b5q h h0
    refine ⟨by omega,aX.2 (Nat.lt_of_lt_of_le b (Nat.pow_le_pow_right oO oO))⟩
theorem lo_end{lo n c0 c1 c2 k e F:Nat}{j:Int}(I:lo<18446744073709551616)(O:lo%9223372036854775808<=9218868437227405312)(m:key lo=if 9223372036854775808<=lo then -1-((lo:Int)-9223372036854775808) else lo)
    (J:(k8 lo=5↔9218868437227405312<lo%9223372036854775808)/\(k8 lo=4↔lo=18442240474082181120)/\(k8 lo=3↔lo=9218868437227405312)/\(k8 lo=1↔lo=9223372036854775808)/\(k8 lo=2↔lo=0)) (M:k8 lo<=5) (V:k8 lo≠5)
    (k0:k8 lo=0->0<c0) (T:k8 lo=1->0<c1) (R:k8 lo=2->0<c2) (C:k8 lo=3->0<k) (Q:k8 lo=4->0<e) (U:c0+c1+c2+k+e+F=n)
    (p:0<c1->∃ y,k8 y=1/\y<18446744073709551616/\y%9223372036854775808<=9218868437227405312/\key lo<=key y/\key y<=j/\key y=(if 9223372036854775808<=y then -1-((y:Int)-9223372036854775808) else y)) (o:0<e->∃ y,k8 y=4/\y<18446744073709551616/\y%9223372036854775808<=9218868437227405312/\key lo<=key y/\key y<=j/\key y=(if 9223372036854775808<=y then -1-((y:Int)-9223372036854775808) else y))
    (r:0<(c0:Int)+c1+c2->∃ y,y<18446744073709551616/\y%9223372036854775808<9218868437227405312/\key lo<=key y/\key y<=j/\key y=(if 9223372036854775808<=y then -1-((y:Int)-9223372036854775808) else y)) :
    if 0<e then lX lo (-1) else if (c0:Int)+c1+c2=0 then 0<k/\lX lo (- -1) else if lX lo 0 then False else if (0:Int)<c0 then True else lo%9223372036854775808=0/\(9223372036854775808<=lo↔((-1:Int)<0↔0<c1)):=by
  rw[m] at p o r
  generalize k8 lo=kl at *
  clear m
  by_cases q4:0<e
  · rw[if_pos q4]
    obtain ⟨y,B,l,A,a,x,g⟩:=o q4
    have w:=(kd l).2.1.1 B
    unfold lX
    rw[if_neg oO,if_pos oO]
    rw[g,w] at a
    simp at a
    split at a<;>omega
  · rw[if_neg q4]
    by_cases qf:(c0:Int)+c1+c2=0
    · rw[if_pos qf]
      have i:kl=3:=by omega
      refine ⟨C i,?_⟩
      unfold lX
      rw[if_neg oO,if_neg oO]
      omega
    · rw[if_neg qf]
      obtain ⟨y,l,A,a,x,g⟩:=r oO
      have d : ¬lo%9223372036854775808=9218868437227405312:=by
        intro q
        rw[g] at a
        split at a<;>split at a<;>omega
      have b : ¬lX lo 0:=by unfold lX;rw[if_pos rfl];exact d
      rw[if_neg b]
      by_cases qp:(0:Int)<c0
      · rw[if_pos qp];trivial
      · rw[if_neg qp]
        by_cases q1:0<c1
        · obtain ⟨z,v,u,H,f,G,t⟩:=p q1
          have s:=(kd u).2.2.2.1.1 v
          rw[t,s] at f
          simp at f
          have D:9223372036854775808<=lo:=by
            split at f<;>omega
          refine ⟨by omega,?_⟩
          simp[q1,D]
        · have h:lo=0:=by omega
          rw[h]
          simp[q1]
theorem hi_end{a n c0 c1 c2 f k F:Nat}{lo:Int}(I:a<18446744073709551616)(O:a%9223372036854775808<=9218868437227405312)(m:key a=if 9223372036854775808<=a then -1-((a:Int)-9223372036854775808) else a)
    (J:(k8 a=5↔9218868437227405312<a%9223372036854775808)/\(k8 a=4↔a=18442240474082181120)/\(k8 a=3↔a=9218868437227405312)/\(k8 a=1↔a=9223372036854775808)/\(k8 a=2↔a=0)) (M:k8 a<=5) (V:k8 a≠5)
    (k0:k8 a=0->0<c0) (T:k8 a=1->0<c1) (R:k8 a=2->0<c2) (Q:k8 a=3->0<f) (C:k8 a=4->0<k) (U:c0+c1+c2+f+k+F=n)
    (p:0<c2->∃ y,k8 y=2/\y<18446744073709551616/\y%9223372036854775808<=9218868437227405312/\lo<=key y/\key y<=key a/\key y=(if 9223372036854775808<=y then -1-((y:Int)-9223372036854775808) else y)) (o:0<f->∃ y,k8 y=3/\y<18446744073709551616/\y%9223372036854775808<=9218868437227405312/\lo<=key y/\key y<=key a/\key y=(if 9223372036854775808<=y then -1-((y:Int)-9223372036854775808) else y))
    (r:0<(c0:Int)+c1+c2->∃ y,y<18446744073709551616/\y%9223372036854775808<9218868437227405312/\lo<=key y/\key y<=key a/\key y=(if 9223372036854775808<=y then -1-((y:Int)-9223372036854775808) else y)) :
    if 0<f then lX a 1 else if (c0:Int)+c1+c2=0 then 0<k/\lX a (-1) else if lX a 0 then False else if (0:Int)<c0 then True else a%9223372036854775808=0/\(9223372036854775808<=a↔((1:Int)<0↔0<c2)):=by
  rw[m] at p o r
  generalize k8 a=kl at *
  clear m
  by_cases q4:0<f
  · rw[if_pos q4]
    obtain ⟨y,B,l,A,x,b,h⟩:=o q4
    have w:=(kd l).2.2.1.1 B
    unfold lX
    rw[if_neg oO,if_neg oO]
    rw[h,w] at b
    simp at b
    split at b<;>omega
  · rw[if_neg q4]
    by_cases qf:(c0:Int)+c1+c2=0
    · rw[if_pos qf]
      have j:kl=4:=by omega
      refine ⟨C j,?_⟩
      unfold lX
      rw[if_neg oO,if_pos oO]
      omega
    · rw[if_neg qf]
      obtain ⟨y,l,A,x,b,h⟩:=r oO
      have e : ¬a%9223372036854775808=9218868437227405312:=by
        intro q
        rw[h] at b
        split at b<;>split at b<;>omega
      have d : ¬lX a 0:=by unfold lX;rw[if_pos rfl];exact e
      rw[if_neg d]
      by_cases qp:(0:Int)<c0
      · rw[if_pos qp];trivial
      · rw[if_neg qp]
        by_cases q1:0<c2
        · obtain ⟨z,v,u,H,G,g,t⟩:=p q1
          have s:=(kd u).2.2.2.2.1 v
          rw[t,s] at g
          simp at g
          have D : ¬9223372036854775808<=a:=by
            split at g<;>omega
          refine ⟨by omega,?_⟩
          simp[q1,D]
        · have i:a=9223372036854775808:=by omega
          rw[i]
          simp[q1]
theorem Mk.ends{S:Sh}{L:List Nat}(h:Mk S L)(hs:S.some):vX S:=by
  have O:=duj L
  have b7:=h.some_iff.1 hs
  obtain ⟨n,Q⟩:=h.fin
  rcases h.e with he|⟨o,R,m,F,D⟩
  · omega
  obtain ⟨l1,l2,l3⟩:=key5 (h.w _ o) R
  obtain ⟨u1,u2,u3⟩:=key5 (h.w _ m) F
  have lk:=kd (h.w _ o)
  have Y:=kd (h.w _ m)
  have lw:=h.w _ o
  have X:=h.w _ m
  have lu:=D _ m F
  have l : ∀ j,0<acx j L->∃ y∈L,k8 y=j:=λj=>cntK_pos.1
  have i : ∀ y∈L,0<acx (k8 y) L:=λy k=>cntK_pos.2 ⟨y,k,rfl⟩
  have I:=i _ o
  have H:=i _ m
  have l5:=b7q S.lo
  have Z:=b7q S.hi
  have a : ∀ j,j≠5->0<acx j L->∃ y,k8 y=j/\y<18446744073709551616/\y%9223372036854775808<=9218868437227405312/\key S.lo<=key y/\key y<=key S.hi/\key y=(if 9223372036854775808<=y then -1-((y:Int)-9223372036854775808) else y):=λj M C=>by
    obtain ⟨y,k,J⟩:=l j C
    have g:k8 y≠5:=by rw[J];exact M
    obtain ⟨b1,b2,b3⟩:=key5 (h.w _ k) g
    exact ⟨y,J,h.w _ k,b2,(D y k g).1,(D y k g).2,b3⟩
  have b:0<S.fin->∃ y,y<18446744073709551616/\y%9223372036854775808<9218868437227405312/\key S.lo<=key y/\key y<=key S.hi/\key y=(if 9223372036854775808<=y then -1-((y:Int)-9223372036854775808) else y):=λhf=>by
    have : ∃ j,j<=2/\0<acx j L:=by
      by_cases q0:0<acx 0 L
      · exact ⟨0,by omega,q0⟩
      by_cases q1:0<acx 1 L
      · exact ⟨1,by omega,q1⟩
      · exact ⟨2,by omega,by omega⟩
    obtain ⟨j,M,C⟩:=this
    obtain ⟨y,y1,G,y3,V,U,T⟩:=a j oO C
    have yk:=kd G
    exact ⟨y,G,by omega,V,U,T⟩
  have g1:=a 1 oO
  have g2:=a 2 oO
  have g3:=a 3 oO
  have g4:=a 4 oO
  have f : ∀ j,k8 S.lo=j->0<acx j L:=λj e=>by rw[<- e];exact I
  have d : ∀ j,k8 S.hi=j->0<acx j L:=λj e=>by rw[<- e];exact H
  have B:=f 0
  have A:=f 1
  have z:=f 2
  have x:=f 3
  have v:=f 4
  have u:=d 0
  have t:=d 1
  have r:=d 2
  have q:=d 3
  have p:=d 4
  clear f d I H a i l
  refine ⟨?_,?_,?_⟩
  · rw[l1,u1]
    simp
    omega
  · unfold arx
    rw[n,Q,h.s]
    dsimp only
    rw[n] at b
    exact lo_end lw l2 l3 lk l5 R B A z x v O g1 g4 b
  · unfold arx
    rw[n,Q,h.s]
    dsimp only
    rw[n] at b
    exact hi_end X u2 u3 Y Z F u t r q p O g2 g3 b
end
section
open Go Sx Wd Fl
set_option exponentiation.threshold 9000
theorem sumI_dvd{L:List Nat}(b : ∀ x∈L,x<18446744073709551616): ∀ a,a=1074->∃ z:Int,ayj L=z*((2^a:Nat):Int):=by
  intro a h
  induction L with
  | nil=>exact ⟨0,by simp[ayj]⟩
  | cons x L ih=>
    obtain ⟨z,d⟩:=ih λy hy=>b y (List.mem_cons_of_mem _ hy)
    have f:=b x (List.mem_cons_self ..)
    have e:ayj (x::L)=fvI x+ayj L:=by simp[ayj]
    obtain ⟨q,g⟩ : ∃ q:Int,fvI x=q*((2^a:Nat):Int):=by
      by_cases hc:(g6 x).cls<=2
      · rw[fvI_nz hc f,h]
        split
        · exact ⟨-(nz (x%9223372036854775808):Int),by rw[Int.natCast_mul,Int.neg_mul]⟩
        · exact ⟨(nz (x%9223372036854775808):Int),by rw[Int.natCast_mul]⟩
      · exact ⟨0,by rw[cnq (λq=>hc oO),Int.zero_mul]⟩
    exact ⟨q+z,by rw[e,d,g,Int.add_mul]⟩
theorem odd_dvd{m a b:Nat}{z:Nat}(h:m*2^a=z*2^b)(d:m%2=1)(g:z≠0):b<=a:=by
  apply Classical.byContradiction
  intro q
  have e:2^b=2^(b-a)*2^a:=by rw[<- Nat.pow_add];congr 1;omega
  rw[e,<- Nat.mul_assoc] at h
  have f:=Nat.eq_of_mul_eq_mul_right (Nat.two_pow_pos a) h
  rw[f,show b-a=(b-a-1)+1 by omega,Nat.pow_succ,<- Nat.mul_assoc,Nat.mul_mod_left] at d
  cases d
theorem sumD_low{S:Int}(h:InB S)(f:S≠0)(g : ∀ a,a=1074->∃ z:Int,S=z*((2^a:Nat):Int)): -1074<=(fQ S).e:=by
  obtain ⟨a,j,n,m,i,l,k⟩:=b5q h f
  obtain ⟨z,d⟩:=g 1074 rfl
  have b:S.natAbs=z.natAbs*2^1074:=by rw[d,Int.natAbs_mul,Int.natAbs_natCast]
  have:=odd_dvd (j.symm.trans b) i (by
    intro e
    have:z=0:=by omega
    rw[this,Int.zero_mul] at d
    exact f d)
  omega
theorem cmpY_sum{S T:Int}(a:InB S)(hT:InB T):cmpY (fQ S) (fQ T)=if S<T then -1 else if T<S then 1 else 0:=cmpD_sum a hT
theorem topD_sum : ∀ a,a=4196->ayq=fQ ((2^a:Nat):Int):=by
  intro a d
  have f:(0:Int)<((2^a:Nat):Int):=by have:=Nat.two_pow_pos a;omega
  have b:InB ((2^a:Nat):Int):=by
    subst d
    have h:2^4196<16384*BB:=by rw[b4x];exact Nat.pow_lt_pow_right oD oD
    unfold InB
    omega
  rw[byx b oO,Int.natAbs_natCast]
  have e:tz (2^a)=a:=by have:=tz_mul 1 a rfl;rwa [Nat.one_mul] at this
  rw[e,Nat.div_self (Nat.two_pow_pos a),decide_eq_false oO]
  subst d
  rfl
theorem cmpV_le{a b A B c:Nat}{e f:Int}(l:e=(A:Int)-c)(k:f=(B:Int)-c)(h:a*2^A<=b*2^B):bvx a e b f<=0:=by
  unfold bvx
  apply sgn_le0
  have j:min e f+c=((min A B:Nat):Int):=by omega
  have i:(e-min e f).toNat=A-min A B:=by omega
  have g:(f-min e f).toNat=B-min A B:=by omega
  rw[i,g]
  have d:=Nat.two_pow_pos (min A B)
  refine Nat.le_of_mul_le_mul_right (c:=2^min A B) ?_ d
  rw[Nat.mul_assoc,Nat.mul_assoc,<- Nat.pow_add,<- Nat.pow_add,show A-min A B+min A B=A by omega,show B-min A B+min A B=B by omega]
  exact h
theorem sh2(d a t b c:Nat):d*2^t*(a*2^b*2^c)=d*a*2^(t+b+c):=by rw[Nat.pow_add,Nat.pow_add];ac_rfl
end
section
open Go Sx Wd Fl
end
section
open Go Sx Wd
theorem round_unique{x:Option Dy}{mode:Int}{b b':Nat}{e e':Int}(h:cyq x mode b e)(m:cyq x mode b' e'):b=b'/\e=e':=by
  rcases h with ⟨a,k,i⟩|⟨a,h⟩<;>rcases m with ⟨o,j,g⟩|⟨o,m⟩
  · exact ⟨k.trans j.symm,i.trans g.symm⟩
  · exact absurd o a
  · exact absurd a o
  · rcases h with ⟨n,k,i⟩|⟨d,r,l,N,_,k,i⟩<;>rcases m with ⟨p,j,g⟩|⟨t,s,f,q,_,j,g⟩
    · exact ⟨k.trans j.symm,i.trans g.symm⟩
    · rw[n] at f;cases f
    · rw[p] at l;cases l
    · rw[l] at f;cases f
      have:=N.unique (zZ _) q
      subst this
      exact ⟨k.trans j.symm,i.trans g.symm⟩
theorem cjq{S T:Sh}(q:S.s=T.s)(r:S.V=T.V){mode o p:Int}{b b':Nat}{e e':Int}(h:crq S mode o p b e)(d:crq T mode o p b' e'):b=b'/\e=e':=by
  unfold crq at h d
  rw[<- q,<- r] at d
  rcases h with ⟨a,k,i⟩|⟨a,h⟩<;>rcases d with ⟨n,j,g⟩|⟨n,d⟩
  · exact ⟨k.trans j.symm,i.trans g.symm⟩
  · exact absurd n a
  · exact absurd a n
  · rcases h with ⟨x,v,k,i⟩|⟨v,h⟩<;>rcases d with ⟨t,f,j,g⟩|⟨f,d⟩
    · rw[v] at f;cases f;exact ⟨k.trans j.symm,i.trans g.symm⟩
    · rw[v] at f;cases f
    · rw[v] at f;cases f
    · rcases h with ⟨m,k,i⟩|⟨m,h⟩<;>rcases d with ⟨l,j,g⟩|⟨l,d⟩
      · exact ⟨k.trans j.symm,i.trans g.symm⟩
      · exact absurd m l
      · exact absurd l m
      · exact round_unique h d
set_option exponentiation.threshold 300000
theorem wd_1:wd 1=[1]:=by decide +kernel
theorem ok_1:(Dy.mk false 1 0).ok:=⟨λh=>absurd h oD,λ_=>by decide,by show (wd 1).length<=8192;rw[wd_1];decide,by decide⟩
theorem intD_1:cJ 1=⟨false,1,0⟩:=by
  show (cX false 1 0).getD Dy.zero=_
  rw[nQ ok_1]
  rfl
theorem mulD_one{d:Dy}(h:d.ok):gX (cJ 1) d=some d:=by
  rw[intD_1]
  unfold gX
  simp only[Nat.one_mul,Int.zero_add]
  rw[if_neg (by have:=h.len;omega)]
  have:(false != d.neg)=d.neg:=by cases d.neg<;>rfl
  rw[this]
  exact nQ h
theorem timD_eq{x y:Dy}(h:x.ok):timD x y=(gX x y).getD Dy.zero:=by
  show (gX ((gX (cJ 1) x).getD Dy.zero) y).getD Dy.zero=_
  rw[mulD_one h]
  rfl
theorem b2x{neg:Bool}{n:Nat}{e:Int}(a : ∀ c,c=200000->n<2^c)(b : -500000<=e/\e<=500000): ∃ d,cX neg n e=some d:=by
  by_cases h0:n=0
  · subst h0;exact ⟨_,kX _ _⟩
  · have i:=zJ h0
    have h:bl n<=200000:=vQ.2 (a _ rfl)
    have g:(wd (n/2^tz n)).length<=8192:=wlenB λc f=>Nat.lt_of_le_of_lt (Nat.div_le_self _ _) (Nat.lt_of_lt_of_le (a _ rfl) (Nat.pow_le_pow_right oD oO))
    exact ⟨_,sJ h0 oO⟩
theorem dwx{x y:Dy}(p : ∀ c,c=9000->x.m<2^c)(o : ∀ c,c=9000->y.m<2^c)(ex : -10000<=x.e/\x.e<=10000)(ey : -10000<=y.e/\y.e<=10000): ∃ d,yQ x y=some d:=by
  have f : ∀ {m:Nat} {k:Nat},(∀ c,c=9000->m<2^c)->k<=20000->∀ c,c=199999->m*2^k<2^c:=λ{m k} b r c a=>by
    have s:m*2^k<2^9000*2^k:=Nat.mul_lt_mul_of_pos_right (b _ rfl) (Nat.two_pow_pos _)
    rw[<- Nat.pow_add] at s
    exact Nat.lt_of_lt_of_le s (Nat.pow_le_pow_right oD oO)
  have q : ∀ {m:Nat} {k:Nat},(∀ c,c=9000->m<2^c)->k<=20000->(wd (m*2^k)).length<=8192:=λ{m k} b r=>wlenB λc a=>Nat.lt_of_lt_of_le (f b r _ rfl) (Nat.pow_le_pow_right oD oO)
  have n:(x.e-min x.e y.e).toNat<=20000:=by omega
  have l:(y.e-min x.e y.e).toNat<=20000:=by omega
  have b : -500000<=min x.e y.e/\min x.e y.e<=500000:=by omega
  have j:=f p n
  have i:=f o l
  have g : ∀ c:Nat,c=200000->∀ d,d=199999->(2:Nat)^d+2^d<=2^c:=λc a d t=>by
    have:c=d+1:=by omega
    rw[this,Nat.pow_succ];omega
  have h : ∀ c:Nat,c=200000->∀ d,d=199999->(2:Nat)^d<=2^c:=λc a d t=>Nat.pow_le_pow_right oD oO
  unfold yQ
  split
  · exact ⟨_,rfl⟩
  split
  · exact ⟨_,rfl⟩
  rw[if_neg (by have:=q p n;have:=q o l;omega)]
  split
  · exact b2x (λc a=>Nat.lt_of_lt_of_le (Nat.add_lt_add (j _ rfl) (i _ rfl)) (g c a _ rfl)) b
  split
  · exact b2x (λc a=>Nat.lt_of_le_of_lt (Nat.sub_le _ _) (Nat.lt_of_lt_of_le (i _ rfl) (h c a _ rfl))) b
  · exact b2x (λc a=>Nat.lt_of_le_of_lt (Nat.sub_le _ _) (Nat.lt_of_lt_of_le (j _ rfl) (h c a _ rfl))) b
structure Sm1(d:Dy):Prop where
  ok:d.ok
  m : ∀ c,c=4300->d.m<2^c
  e : -2500<=d.e/\d.e<=4300
theorem doq{x y:Dy}(d:Sm1 x)(b:Sm1 y): ∃ z,gX x y=some z/\z.ok/\(∀ c,c=9000->z.m<2^c)/\-10000<=z.e/\z.e<=10000:=by
  by_cases h0:x.m=0\/y.m=0
  · have e:gX x y=some Dy.zero:=by
      unfold gX
      have:x.m*y.m=0:=by rcases h0 with q|q<;>simp[q]
      rw[this,if_neg (by rw[fX];decide),kX]
    exact ⟨_,e,b6x,λc h=>Nat.two_pow_pos _,by decide,by decide⟩
  · have g:x.m≠0:=λq=>h0 (.inl q)
    have f:y.m≠0:=λq=>h0 (.inr q)
    have ex:=d.e
    have i:=b.e
    have e:=cmq (d.ok.odd g) (b.ok.odd f) (d.m _ rfl) (b.m _ rfl) oO oO
    refine ⟨_,e,mJ e,λc h=>?_,by dsimp only;omega,by dsimp only;omega⟩
    have a:x.m*y.m<2^4300*2^4300:=Nat.mul_lt_mul'' (d.m _ rfl) (b.m _ rfl)
    rw[<- Nat.pow_add] at a
    exact Nat.lt_of_lt_of_le a (Nat.pow_le_pow_right oO oO)
theorem subD_small{x y:Dy}(h:x.ok)(a:y.ok)(b : ∀ c,c=9000->x.m<2^c)(g : ∀ c,c=9000->y.m<2^c)(ex : -10000<=x.e/\x.e<=10000)(ey : -10000<=y.e/\y.e<=10000): ∃ d,crj x y=some d:=by
  unfold crj
  by_cases h0:y.m=0
  · rw[h0,kX]
    exact dwx b (λc j=>Nat.two_pow_pos _) ex oD
  · have f:=cex (a.odd h0)
    have i:=a.len
    rw[sJ h0 (by rw[f];simp;omega),f]
    simp only[Nat.pow_zero,Nat.div_one]
    exact dwx b g ex (by dsimp only;omega)
theorem Sm1.sum{S:Int}(h:InB S):Sm1 (fQ S):=by
  by_cases h0:S=0
  · subst h0;exact ⟨b6x,λc b=>Nat.two_pow_pos _,by decide⟩
  · obtain ⟨a,j,i,g,f,d,e⟩:=b5q h h0
    exact ⟨a2q h,λc b=>Nat.lt_of_lt_of_le d (Nat.pow_le_pow_right oD oO),by omega⟩
theorem Sm1.int{n:Int}(h:n.natAbs<=1099511627776):Sm1 (cJ n):=by
  have e:=bhx (n:=n) oO
  by_cases h0:n.natAbs=0
  · rw[h0,kX] at e
    rw[<- Option.some.inj e]
    exact ⟨b6x,λc b=>Nat.two_pow_pos _,by decide⟩
  · have f:=zJ h0
    have d:bl n.natAbs<=64:=vQ.2 oO
    have a:=jZ e
    unfold cX at e
    rw[if_neg h0] at e
    split at e
    · cases e
    · rw[<- Option.some.inj e]
      rw[<- Option.some.inj e] at a
      refine ⟨a,λc b=>Nat.lt_of_le_of_lt (Nat.div_le_self _ _) (Nat.lt_of_lt_of_le (by omega:n.natAbs<2^64) (Nat.pow_le_pow_right oD oO)),by dsimp only;omega⟩
theorem var_some{V Q:Int}(a:InB V)(d:InB Q){n:Int}(b:n.natAbs<=1099511627776): ∃ x y v,gX (cJ n) (fQ Q)=some x/\gX (fQ V) (fQ V)=some y/\crj x y=some v:=by
  obtain ⟨x,g,p,o,m,l⟩:=doq (Sm1.int b) (Sm1.sum d)
  obtain ⟨y,f,k,j,i,h⟩:=doq (Sm1.sum a) (Sm1.sum a)
  obtain ⟨v,e⟩:=subD_small p k o j ⟨m,l⟩ ⟨i,h⟩
  exact ⟨x,y,v,g,f,e⟩
end
section
open Go Sx Wd Fl
def RdM(lo:Nat)(w:World)(br:Nat)(bs:List Nat)(p:Nat)(bad:Bool):Prop:=∃ a c,BK w br 151 [.slice a bs.length c,.int .i64 (p:Int),.bool bad]/\RW w a (bs.map u8v)/\p<=bs.length/\bs.length<=c/\br<lo/\∀ ad,a=some ad->bs≠[]->ad.block<lo
theorem RdM.q8{lo:Nat}{w w':World}{e:Nat}{d:List Nat}{p:Nat}{bad:Bool}(h:RdM lo w e d p bad)(b:Chg [] w w'):RdM lo w' e d p bad:=by
  obtain ⟨a,c,j,i,g,f⟩:=h
  exact ⟨a,c,j.q8 b,i.q8 b,g,f⟩
theorem RdM.dJ{lo:Nat}{w w':World}{j:Nat}{p:Nat}{f:List Nat}{bad:Bool}{T:List Nat}(h:RdM lo w j f p bad)(g:Chg T w w')(hT : ∀ b∈T,lo<=b):RdM lo w' j f p bad:=by
  obtain ⟨a,c,o,n,m,l,k,i⟩:=h
  refine ⟨a,c,o.dJ g (λd=>by have:=hT _ d;omega),?_,m,l,k,i⟩
  by_cases hne:f=[]
  · rw[hne];exact RW.nil
  · exact n.keepB g (λq e d=>by have:=hT _ d;have:=i q e hne;omega)
theorem RdM.q9{lo:Nat}{w w':World}{d:Nat}{p:Nat}{a:List Nat}{bad:Bool}{b:Nat}{T:TypeId}{cs:List Value}(h:RdM lo w d a p bad)(_:BK w b T cs)(f:Chg [b] w w')(_ : ∀ c∈cs,xX c=false)(e:lo<=b:=by omega):RdM lo w' d a p bad:=h.dJ f λy hy=>by rw[List.mem_singleton.1 hy];exact e
theorem RdM.le{lo:Nat}{w:World}{d:Nat}{a:List Nat}{p:Nat}{bad:Bool}(h:RdM lo w d a p bad):p<=a.length:=by
  obtain ⟨_,_,_,_,b,_⟩:=h;exact b
theorem RdM.lt{lo:Nat}{w:World}{a:Nat}{d:List Nat}{p:Nat}{bad:Bool}(h:RdM lo w a d p bad):a<lo:=by
  obtain ⟨_,_,_,_,_,_,b,_⟩:=h;exact b
theorem u8_read(a:Option Addr)(m c:Nat)(p:Int)(bad:Bool): ∀ v∈[Value.slice a m c,.int .i64 p,.bool bad],isU8 v=false:=by
  intro v b
  simp only[List.mem_cons,List.not_mem_nil,or_false] at b
  rcases b with rfl|rfl|rfl<;>rfl
theorem RdM.set{x:Bool}{w w':World}{lo f p:Nat}{b:List Nat}{bad:Bool}{a:Option Addr}{c:Nat}(h:RdM lo w f b p bad)(l:BK w f 151 [.slice a b.length c,.int .i64 (p:Int),.bool bad])(d:BK w' f 151 [.slice a b.length c,.int .i64 (p:Int),.bool x])(k:Chg [f] w w'):RdM lo w' f b p x:=by
  obtain ⟨j,i,g,s,r,q,o,n⟩:=h
  have e:=l.symm.trans g
  have m:=s.d8j g k (u8_read _ _ _ _ _)
  injection e with e
  injection e with e _
  have u:[Value.slice a b.length c,.int .i64 (p:Int),.bool bad]=[.slice j b.length i,.int .i64 (p:Int),.bool bad]:=by
    have:=congrArg Array.toList e;simpa using this
  injection u with t _
  rw[t] at d
  exact ⟨j,i,d,m,r,q,o,n⟩
theorem leV_at{a:List Nat}{p q k:Nat}(h:q<k)(b:p+q<a.length):leV ((a.drop (p+q)).take (k-q))=a.getD (p+q) 0+256*leV ((a.drop (p+(q+1))).take (k-(q+1))):=by
  rw[List.drop_eq_getElem_cons b,show k-q=(k-(q+1))+1 by omega,List.take_succ_cons,leV,show p+(q+1)=p+q+1 by omega,List.getD_eq_getElem?_getD,List.getElem?_eq_getElem b]
  rfl
structure KGt(bs:List Nat)(a:Option Addr)(c br p k:Nat)(w0:World)(g:Nat×Nat)(w:World):Prop where
  hi:g.1<=k
  n:g.2=leV ((bs.drop (p+g.1)).take (k-g.1))
  b:BK w br 151 [.slice a bs.length c,.int .i64 (p:Int),.bool false]
  r:RW w a (bs.map u8v)
  ch:Chg [br] w0 w
theorem bcj(lo o p:Nat)(f:List Nat)(bad:Bool)(k:Nat)(w:World)(hR:RdM lo w o f p bad)(hL:f.length<=140737488355328)(hB:B8 f)(hk:k<=8):Ret Tryz.prog 91 [.pointer (some ⟨o,0,none⟩),.int .i64 (k:Int)] w λu w'=>u = .int .u64 ((rdN f p bad k).1:Int)/\RdM lo w' o f (rdN f p bad k).2.1 (rdN f p bad k).2.2/\Chg [o] w w':=by
 obtain ⟨a,c,e,r,hp,T,U,Y⟩:=hR;have d:Chg [o] w w:=Chg.refl _ _;have X:=e;have J:=r;refine zE2 Tryz.func91 rfl ?_;refine Sr λ_ a3=>za rfl (zz (a3 (zc λ_ a2=>?_)));refine CW.seqMD 24 (decide (bad=true\/f.length-p<k)) ?_ ?_
 ·refine CW.jQ dZ oR λb5 t h=>?_;have e:=e.q8 h;refine ym rfl (yP rfl (yf rfl ?_));refine WS.ev (Ev.load (v:=.bool bad) rfl rfl (e.at_ rfl)) rfl ?_;refine ym rfl ?_;refine WS.afq (λl=>?_) (λl=>?_)
  ·(try simp only[qs] at l);refine yv rfl (yv rfl (yv rfl (yv rfl (yv rfl (yv rfl (yv rfl (yv rfl (yv rfl (yv rfl (yv rfl (yv rfl (yt rfl rfl ?_))))))))))));refine WS.nil (t _ _ ?_);refine ⟨rfl,rfl,j0.g8 rfl ?_ ?_⟩
   ·first|(cases bad<;>first|(simp_all;done)|(simp;omega)|(simp_all;omega))
   exact SMg
  (try simp only[qs] at l);refine yw rfl (ym rfl (yw rfl (yP rfl (yw rfl (yf rfl (yw rfl ?_))))));refine WS.ev (Ev.load (v:=.slice a f.length c) rfl rfl (e.at_ rfl)) rfl ?_
  refine yw rfl (yn rfl (yw rfl (ym rfl (yw rfl (yP rfl (yw rfl (yf rfl (yw rfl ?_))))))));refine WS.ev (Ev.load rfl rfl (e.at_ rfl)) rfl ?_;refine yw rfl ?_
  first|refine WS.ev (Ev.dX rfl rfl oO) rfl ?_|refine WS.ev (Ev.sub rfl rfl) rfl ?_
  refine yw rfl (ym rfl (yw rfl ?_));refine WS.ev (Ev.lss rfl rfl) rfl ?_;refine ye rfl rfl ?_;refine WS.nil (t _ _ ?_);refine ⟨rfl,rfl,j0.g8 rfl ?_ ?_⟩
  ·first|(cases bad<;>first|(simp_all;done)|(simp;omega)|(simp_all;omega))
  exact SMg
 intro h;have d:=d.ta h;have e:=e.q8 h;refine zy rfl ?_ ?_<;>intro m<;>try simp only[qs] at m
 ·have M:bad=true\/f.length-p<k:=m
  have a9:=e;refine Sr λ_ a1=>zm rfl (zP rfl (zf rfl ?_));refine WL.bJ rfl rfl o1 e oS rfl λb4 i R=>?_;(try simp only[qt] at i);have d:=d.s1 R;have e:=i;refine zz (a1 (Sr λ_ a0=>za rfl (zz (a0 ?_))));refine zr (zr1 rfl rfl ?_);rw[show rdN f p bad k=(0,p,true) from if_pos M];exact ⟨rfl,⟨a,c,e,J.d8j X d (u8_read _ _ _ _ _),hp,T,U,Y⟩,d⟩
 have M : ¬(bad=true\/f.length-p<k):=λz=>by have h9:=m;rcases z with z|z<;>simp_all<;>omega
 have b8:k<=f.length-p:=by have:=λz=>M (.inr z);omega
 have b0:bad=false:=by cases bad with|true=>exact absurd (.inl rfl) M|false=>rfl
 subst b0;refine zkk (a2 (Sr λ_ Z=>za rfl (zz (Z (zc λ_ I=>Sr λ_ H=>zm rfl ?_)))));refine WL.ev (Ev.dX rfl rfl oO) rfl ?_;refine za rfl (zz (H (CW.block ?_)));refine CW.loop (S:=λg:Nat×Nat=>[(0,.pointer (some ⟨o,0,none⟩)),(1,.int .i64 (k:Int)),(5,.int .u64 (g.2:Int)),(6,.int .i64 ((g.1:Int)-1))]) (Inv:=KGt f a c o p k w) (mu:=λg=>g.1) ((k,0)) ?_ ?_ ?_
 ·exact ⟨Nat.le_refl _,by dsimp only;rw[Nat.sub_self,List.take_zero];rfl,e,r,d⟩
 ·exact SLp
 rintro ⟨j,n⟩ wr ⟨hj,O,e,r,d⟩;dsimp only at hj O;dsimp only;refine zc λ_ G=>Sr λ_ F=>zm rfl ?_;refine WL.ev (Ev.geq rfl rfl) rfl ?_;refine zz (F ?_);refine zy rfl ?_ ?_<;>intro a8<;>try simp only[qs] at a8
 ·obtain ⟨q,rfl⟩ : ∃ q,j=q+1:=⟨j-1,by omega⟩
  rw[show (((q+1:Nat):Int)-1)=(q:Int) by omega];have a4:=leV_lt ((hB.drop (p+(q+1))).take (k-(q+1)));have a5:((f.drop (p+(q+1))).take (k-(q+1))).length<=7:=by rw[List.length_take];omega
  have b6:=pow_le8 a5;rw[<- O] at a4;have a7:=hB.getD (p+q);refine zkk (G (zc λ_ D=>CW.block ?_));refine CW.jQ dZ oR λb1 A h=>?_;have d:=d.ta h;have e:=e.q8 h;refine ym rfl ?_;refine WS.ev (Ev.aqx (a:=n) (b:=8) rfl rfl) rfl ?_;rw[Nat.mod_eq_of_lt oO];refine ym rfl (yP rfl (yf rfl ?_));refine WS.ev (Ev.load (v:=.slice a f.length c) rfl rfl (e.at_ rfl)) rfl ?_;refine ym rfl (yP rfl (yf rfl ?_));refine WS.ev (Ev.load rfl rfl (e.at_ rfl)) rfl ?_;refine ym rfl ?_;refine WS.ev (Ev.kQ rfl rfl oO) rfl ?_;refine WS.ev (Ev.ixR (p+q) rfl rfl r oO oO oT) rfl ?_;refine WS.ev (Ev.load rfl rfl (r.u8 oO)) rfl ?_;refine WS.ev (Ev.eZ rfl rfl (jX oO)) rfl ?_;refine WS.ev (Ev.orU rfl rfl rfl (by simp only[IntKind.bits];omega) (by simp only[IntKind.bits];omega)) rfl ?_;rw[Nat.or_comm,agj (s:=8) a7,show f.getD (p+q) 0+n*2^8=f.getD (p+q) 0+256*n by omega];refine ya rfl ?_;refine WS.nil (A _ _ ?_);refine D (zS λ_ y=>zm rfl ?_)
  first|refine WL.ev (Ev.dX rfl rfl oO) rfl ?_|refine WL.ev (Ev.sub rfl rfl) rfl ?_
  refine za rfl (zz (y ?_));refine ⟨rfl,(q,f.getD (p+q) 0+256*n),?_,?_,?_⟩
  ·exact SLp
  ·exact ⟨by dsimp only;omega,by dsimp only;rw[leV_at oO oO,<- O],e,r,d⟩
  show q<q+1;omega
 have a6:j=0:=by omega
 subst a6;rw[Nat.add_zero,Nat.sub_zero] at O;refine CW.exit ?_;refine I (zc λ_ C=>?_);have a9:=e;refine zR λ_ x=>?_;refine zm rfl (zm rfl (zP rfl (zf rfl (zl e rfl rfl (zm rfl ?_)))));(first|refine zi rfl rfl ?_|refine zo rfl rfl ?_);refine zP rfl (zf rfl ?_);refine WL.bJ rfl rfl o1 e oS rfl λb3 i Q=>?_;(try simp only[qt] at i);have d:=d.s1 Q;have e:=i;refine WL.nil (x _ _ _ (C ?_));refine Sr λ_ B=>zm rfl (za rfl (zz (B ?_)));refine zr (zr1 rfl rfl ?_);have V:=e;rw[show (p:Int)+(k:Int)=((p+k:Nat):Int) by omega] at V;rw[show rdN f p false k=(leV ((f.drop p).take k),p+k,false) from if_neg M,<- O];dsimp only;exact ⟨rfl,⟨a,c,V,J.d8j X d (u8_read _ _ _ _ _),by omega,T,U,Y⟩,d⟩
theorem atx(lo r p:Nat)(b:List Nat)(bad:Bool)(w:World)(g:RdM lo w r b p bad)(H:b.length<=140737488355328)(B:B8 b):Ret Tryz.prog 86 [.pointer (some ⟨r,0,none⟩)] w λu w'=>u = .int .i64 ((rdC b p bad).1:Int)/\RdM lo w' r b (rdC b p bad).2.1 (rdC b p bad).2.2/\Chg [r] w w':=by
 refine zE1 Tryz.func86 rfl ?_;refine Sr λ_ z=>za rfl (zz (z (Sr λ_ y=>zm rfl ?_)));refine WL.call hasF91 rfl rfl (bcj lo r p b bad 8 _ g H B oD) λv M I=>?_;obtain ⟨rfl,g,l⟩:=I;have k:=csx B p bad 8 oD;generalize hN:rdN b p bad 8=R at *;obtain ⟨n,q,J⟩:=R;dsimp only at g k;dsimp only;refine za rfl (zz (y (zc λ_ x=>Sr λ_ t=>zm rfl (zG rfl rfl (zz (t ?_))))));refine zy rfl ?_ ?_<;>intro f<;>try simp only[qs] at f
 ·have m:1099511627776<n:=by have:=f;omega
  have e:rdC b p bad=(0,q,true):=by unfold rdC;rw[hN,if_pos m]
  obtain ⟨a,c,A,O,Q,D,F,G⟩:=id g;refine Sr λ_ s=>zm rfl (zP rfl (zf rfl ?_));refine WL.bJ rfl rfl rfl A oS rfl λC o d=>?_;simp only[List.set_cons_succ,List.set_cons_zero] at o;refine zz (s (Sr λ_ i=>za rfl (zz (i ?_))));refine zr (zr1 rfl rfl ?_);rw[e];exact ⟨rfl,g.set A o d,l.trans d⟩
 have j : ¬1099511627776<n:=by have:=f;omega
 have e:rdC b p bad=(n,q,J):=by unfold rdC;rw[hN,if_neg j]
 refine zkk (x (Sr λ_ h=>zm rfl ?_));refine WL.ev (Ev.eZ rfl rfl (tX oO)) rfl ?_;refine za rfl (zz (h ?_));refine zr (zr1 rfl rfl ?_);rw[e];exact ⟨rfl,g,l⟩
end
end Go.Proofs.YtomlallhlakhfaaGreatDoor