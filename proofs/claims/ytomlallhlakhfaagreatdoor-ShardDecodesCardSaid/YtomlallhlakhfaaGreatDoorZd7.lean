/- Part 7 of what the proof rests on. No condition. -/
import Derived.Test.YtomlallhlakhfaaGreatDoorZd6
import Derived.RangeFuncLeaves
import Derived.RangeFuncRecord
import Derived.TacticsIn
set_option linter.unusedVariables false
set_option linter.unusedSimpArgs false
set_option maxRecDepth 100000
set_option maxHeartbeats 4000000
namespace Go.Proofs.YtomlallhlakhfaaGreatDoor
section
open Go Sx Wd
theorem PQ.gr1{w:World}{e:TypeId}{lo m:Nat}{v:Value}{f:Nat->Value}{l:List Nat}(h:PQ w e 1 lo v m (l.map f)): ∃ a c,v = .slice a l.length c/\l.length<=c/\RW w a (l.map f):=by
  obtain ⟨a,c,rfl,g,d,b⟩:=h.row
  rw[List.length_map,Nat.mul_one] at b
  subst b
  exact ⟨a,c,rfl,g,d⟩
theorem PQ.bwq{w:World}{e:TypeId}{lo m:Nat}{v:Value}{l:List Nat}(h:PQ w e 1 lo v m (l.map u8v)): ∃ a c,v = .slice a l.length c/\l.length<=c/\RW w a (l.map u8v)/\∀ ad,a=some ad->ad.block<w.heap.size:=by
  obtain ⟨a,c,rfl,f,d⟩:=h.gr1
  exact ⟨a,c,rfl,f,d,λad e=>h.lt (b:=ad.block) (by subst e;rcases h with ⟨q,_⟩|⟨g,j,i,q,_⟩<;>cases q;rfl)⟩
theorem PQ.empty{w:World}{e:TypeId}{b lo:Nat}(a:lo<=w.heap.size):PQ (w.alloc (.cells #[] e)) e b lo (.slice (some ⟨w.heap.size,0,none⟩) 0 0) 0 []:=
  .inr ⟨w.heap.size,0,#[],rfl,a,(asq w (.cells #[] e)).at_,by simp,Nat.le_refl _,by unfold maxLen;omega,by simp,by simp,λc hc=>by simp at hc⟩
theorem PQ.mono{w:World}{e:TypeId}{d lo a m:Nat}{v:Value}{cs:List Value}(h:PQ w e d lo v m cs)(f:a<=lo):PQ w e d a v m cs:=by
  rcases h with h|⟨g,c,b,k,j,i⟩
  · exact .inl h
  · exact .inr ⟨g,c,b,k,Nat.le_trans f j,i⟩
namespace Sx
section
variable {P:Program} {n:Nat} {D:List Deferred} {s:Sl} {w:World} {ops:Array Oper} {K:KK} {rest:List Oper} {ty:TypeId} {pos:String} {af:Array Edge} {d:Nat} {x y:Operand}
theorem ev_appN{t e be:Nat}{de:TypeDesc}{ze:Value}{sz c1:Nat}{z:Value}{v:Value}{lo m mm:Nat}{cs news:List Value}{a:Option Addr}{c:Nat}[hT:aZ P t (.slice e) sz c1 z][hE:aZ P e de 1 be ze]
    (R:ze.cells.size=1) (T : ∀ c∈ze.cells.toList,abq c=false) (hx:g8 s x=some v) (hy:g8 s y=some (.slice a mm c)) (h:PQ w e 1 lo v m cs) (O:mm=news.length) (V:RW w a news) (h1 : ∀ q∈news,q.oneCell'=true) (F : ∀ q∈news,abq q=false) (Y:lo<=w.heap.size) (B:(m+mm)*be<=140737488355328) (d2:m+mm<=140737488355328) :
    ∃ v' w',Ev P s (.call ⟨.builtin .append,[x,y].toArray,#[t,t]⟩) ty w v' w'/\PQ w' e 1 lo v' (m+mm) (cs++news)/\Chg v.ownBlock.toList w w'/\(∀ b,v'.ownBlock=some b->v.ownBlock=some b\/w.heap.size<=b):=by
  obtain ⟨i,hi,A,a0,Z⟩:=hE.inf
  have b7:m+mm<=maxLen:=by unfold maxLen;omega
  have b0 : ∀ o:Obj,Chg v.ownBlock.toList w (w.drew.alloc o):=λo=>⟨rfl,rfl,rfl,by simp,λk hk _=>heap_alloc_old w.drew _ hk⟩
  by_cases h0:mm=0
  · -- nothing is added
    subst h0
    have hn:news=[]:=List.length_eq_zero_iff.1 O.symm
    subst hn
    have r:(Builtin.append_ #[t,t] ty #[v,.slice a 0 c]).run P w = .ok v w:=by
      have hf:(Builtin.firstCells i.size 0 (.slice a 0 c)).run P w = .ok #[] w:=by
        cases a with
        | none=>exact run_firstCells_none (P:=P) (w:=w) _ _ _ _
        | some M=>exact run_firstCells_some (P:=P) w i.size 0 M 0 c [] oS (λj v h=>by simp at h)
      rcases h with ⟨rfl,rfl,rfl⟩|⟨g,d,f,rfl,a1,a2,a3,a4,a5,Q,a7,a8⟩
      · simp[Builtin.append_,run_underlying hT.und,sizeOf,typeInfo,hi,Builtin.lenOf,hf]
      · simp[Builtin.append_,run_underlying hT.und,sizeOf,typeInfo,hi,Builtin.lenOf,hf,a4,storeCells]
    refine ⟨v,w,λρ d' D af g' p=>?_,by rw[List.append_nil];exact h,Chg.refl _ _,λb J=>.inl J⟩
    have n:=p x _ hx
    have C:=p y _ hy
    simp[execOp,resolve,invoke,builtin,n,C,r]
  obtain ⟨M,rfl⟩:=V.some_ oO
  have l : ∀ j q,news[j]?=some q->w.cell? (M.add j)=some q:=λj q u=>by
    obtain ⟨c3,n,hc⟩:=V j q u
    cases n;exact hc
  have G:news.length=mm*i.size:=by rw[A,Nat.mul_one];exact O.symm
  rcases h with ⟨rfl,rfl,rfl⟩|⟨g,d,f,rfl,a1,a2,a3,a4,a5,Q,a7,a8⟩
  · have r:=run_append_nil (P:=P) w t ty e i ze hT.und hi Z M mm c news G l oO oO (by rw[a0];simp only[Nat.zero_add] at B;omega)
    refine ⟨_,_,λρ d' D af g' p=>?_,pq_new (cs:=[]++news) (m:=0+mm) R oD T (by simp[O]) (by rw[Nat.zero_add];exact grownCap_ge w mm 0 e) (grownCap_le_maxLen w mm 0 e oO) (λq u=>F q (by simpa using u)) Y,b0 _,λb J=>by cases J;exact .inr (Nat.le_refl _)⟩
    have n:=p x _ hx
    have C:=p y _ hy
    simp[execOp,resolve,invoke,builtin,n,C,r]
  · by_cases hroom:m+mm<=d
    · have hf:=run_firstCells_some (P:=P) w i.size mm M mm c news G l
      have U:=run_storeCells_at P g (0+m*i.size) e news 0 f w a2 (by rw[A];omega) h1
      simp only[Nat.add_zero,Nat.zero_add] at U
      have r:(Builtin.append_ #[t,t] ty #[.slice (some ⟨g,0,none⟩) m d,.slice (some M) mm c]).run P w =
          .ok (.slice (some ⟨g,0,none⟩) (m+mm) d) (w.setRow g (f.toList.take (m*i.size)++news++f.toList.drop (m*i.size+news.length)).toArray):=by
        simp[Builtin.append_,run_underlying hT.und,sizeOf,typeInfo,hi,Builtin.lenOf,hroom,hf,Addr.add_lit,U]
      rw[A] at r
      have H:Ev P s (.call ⟨.builtin .append,[x,y].toArray,#[t,t]⟩) ty w (.slice (some ⟨g,0,none⟩) (m+mm) d) (w.setRow g (f.toList.take (m*1)++news++f.toList.drop (m*1+news.length)).toArray):=λρ d' D af g' p=>by
        have n:=p x _ hx
        have C:=p y _ hy
        simp[execOp,resolve,invoke,builtin,n,C,r]
      refine ⟨_,_,H,.inr ⟨g,d,_,rfl,a1,setRow_heap w g f _ e _ a2,?_,hroom,a5,?_,?_,λq u=>?_⟩,⟨rfl,rfl,rfl,by simp,λk _ hk=>setRow_other w g k _ (λe=>hk (by simp[Value.ownBlock,e]))⟩,λb J=>.inl J⟩
      · simp only[List.size_toArray,List.length_append,List.length_take,List.length_drop,Array.length_toList]
        omega
      · rw[List.length_append,Q,O];omega
      · rw[a7,Nat.add_mul]
        have:m*1+mm*1=(cs++news).length:=by rw[List.length_append,Q,O];omega
        rw[this]
        exact List.take_left
      · rcases List.mem_append.1 u with z|z
        · rcases List.mem_append.1 z with y|y
          · exact a8 q (List.mem_of_mem_take y)
          · exact F q y
        · exact a8 q (List.mem_of_mem_drop z)
    · have X:RW w (some ⟨g,0,none⟩) cs:=by
        obtain ⟨a,c',n,_,r,_⟩:=PQ.row (lo:=lo) (.inr ⟨g,d,f,rfl,a1,a2,a3,a4,a5,Q,a7,a8⟩)
        cases n;exact r
      have r:=run_append_grow (P:=P) w t ty e i ze hT.und hi Z ⟨g,0,none⟩ m d cs (by rw[A];exact Q) (λj q u=>by
        obtain ⟨c3,n,I⟩:=X j q u
        cases n;exact I) M mm c news G l oO oO (growslice_fits oO (by rw[a0];exact B))
      have H:Ev P s (.call ⟨.builtin .append,[x,y].toArray,#[t,t]⟩) ty w (.slice (some ⟨w.heap.size,0,none⟩) (m+mm) (grownCap w (m+mm) d e)) (w.drew.alloc (.cells ((cs++news).toArray++Builtin.zeroCells ze.cells (grownCap w (m+mm) d e-(m+mm))) e)):=λρ d' D af g' p=>by
        have n:=p x _ hx
        have C:=p y _ hy
        have e3:(cs++news).toArray=cs.toArray++news.toArray:=by simp
        rw[e3]
        simp only[execOp,resolve,invoke,builtin,n,C] at r ⊢
        simp[n,C,r,execOp,resolve,invoke,builtin]
      refine ⟨_,_,H,pq_new R oD T (by rw[List.length_append,Q,O];omega) (grownCap_ge w (m+mm) d e) (grownCap_le_maxLen w (m+mm) d e b7) (λq u=>?_) Y,b0 _,λb J=>by cases J;exact .inr (Nat.le_refl _)⟩
      rcases List.mem_append.1 u with z|z
      · rw[<- a7] at z
        exact a8 q (List.mem_of_mem_take z)
      · exact F q z
theorem WL.appN{t e u:Nat}{Q:TypeDesc}{ze:Value}{A r:Nat}{z:Value}{v:Value}{lo m mm:Nat}{cs news:List Value}{a:Option Addr}{c:Nat}[hT:aZ P t (.slice e) A r z][hE:aZ P e Q 1 u ze]
    (g:ze.cells.size=1) (i : ∀ c∈ze.cells.toList,abq c=false) (C:g8 s x=some v) (B:g8 s y=some (.slice a mm c)) (h:PQ w e 1 lo v m cs) (G:mm=news.length) (l:RW w a news) (O : ∀ q∈news,q.oneCell'=true) (j : ∀ q∈news,abq q=false) (o:lo<=w.heap.size) (f:(m+mm)*u<=140737488355328) (p:m+mm<=140737488355328) (J:Nat.blt d n=true)
    (k : ∀ v' w',PQ w' e 1 lo v' (m+mm) (cs++news)->Chg v.ownBlock.toList w w'->(∀ b,v'.ownBlock=some b->v.ownBlock=some b\/w.heap.size<=b)->WL P ops K rest n D ((d,v')::s) w') :
    WL P ops K (⟨some d,.call ⟨.builtin .append,[x,y].toArray,#[t,t]⟩,ty,pos,af,none⟩::rest) n D s w:=by
  obtain ⟨v',w',I,F,M,H⟩:=ev_appN (P:=P) (s:=s) (ty:=ty) (t:=t) (hT:=hT) (hE:=hE) g i C B h G l O j o f p
  exact WL.ev I J (k v' w' F M H)
theorem WL.app8{t e r:Nat}{J:TypeDesc}{u p:Nat}{z:Value}{v:Value}{lo mm:Nat}{l news:List Nat}{a:Option Addr}{c:Nat}[hT:aZ P t (.slice e) u p z][hE:aZ P e J 1 r (.int .u8 0)]
    (B:g8 s x=some v) (A:g8 s y=some (.slice a mm c)) (h:PQ w e 1 lo v l.length (l.map u8v)) (C:mm=news.length) (j:RW w a (news.map u8v)) (m:lo<=w.heap.size) (g:(l.length+news.length)*r<=140737488355328) (o:l.length+news.length<=140737488355328) (F:Nat.blt d n=true)
    (k : ∀ v' w',PQ w' e 1 lo v' (l++news).length ((l++news).map u8v)->Chg v.ownBlock.toList w w'->(∀ b,v'.ownBlock=some b->v.ownBlock=some b\/w.heap.size<=b)->WL P ops K rest n D ((d,v')::s) w') :
    WL P ops K (⟨some d,.call ⟨.builtin .append,[x,y].toArray,#[t,t]⟩,ty,pos,af,none⟩::rest) n D s w:=by
  subst C
  refine WL.appN (by rfl) (λq f=>by simp[Value.cells] at f;subst f;rfl) B A h (by rw[List.length_map]) j (λq f=>?_) (λq f=>?_) m g o F (λv' w' I H G=>k v' w' (by rw[List.length_append,List.map_append];exact I) H G)
  · obtain ⟨i,_,rfl⟩:=List.mem_map.1 f;rfl
  · obtain ⟨i,_,rfl⟩:=List.mem_map.1 f;rfl
theorem WL.empty8{t e:TypeId}{i:TypeDesc}{c b h j:Nat}{z ze:Value}{lo:Nat}[hT:aZ P t (.slice e) c b z][hE:aZ P e i h j ze](a:lo<=w.heap.size)(f:Nat.blt d n=true)
    (k : ∀ v w',PQ w' e 1 lo v 0 []->Chg [] w w'->WL P ops K rest n D ((d,v)::s) w'):WL P ops K (⟨some d,.buildSlice t 0 #[],ty,pos,af,none⟩::rest) n D s w:=by
  refine WL.ev (v:=.slice (some ⟨w.heap.size,0,none⟩) 0 0) (w':=w.alloc (.cells #[] e)) (λρ m pos af g l=>?_) f (k _ _ (PQ.empty a) (asq w _).chg)
  simp[execOp,Instr.buildSlice,hT.underlying,hE.sizeOf,Instr.fill,newRow]
  rw[show Array.range 0 = #[] from by decide,Array.map_empty]
end
end Sx
theorem bA_append(l m:List Nat):bA (l++m)=bA l++bA m:=by
  apply ByteArray.ext
  simp[bA]
theorem Sx.Ev.addS{P:Program}{s:Sl}{w:World}{ty:TypeId}{x y:Operand}{t t':TypeId}{a b:ByteArray}(e:g8 s x=some (.string a))(c:g8 s y=some (.string b))(h:a.size+b.size<=9223372036854775807):Ev P s (.binOp .add t x y t') ty w (.string (a++b)) w:=λρ d pos af g hρ=>by
  have e1:=hρ x _ e
  have e2:=hρ y _ c
  simp[execOp,e1,e2,eqGuard,binOp_string_add,run_string_add_sum (P:=P) (w:=w) (a:=a) (b:=b) (h:=h)]
end
section
open Go Sx Wd Fl
theorem pow8(i:Nat):2^(8*i)=256^i:=by rw[Nat.pow_mul]
structure KLw(n k b:Nat)(w0:World)(i:Nat)(w:World):Prop where
  hi:i<=k
  hb:YB w b 5 (leB n i++List.replicate (k-i) 0)
  ch:Chg [] w0 w
theorem bnj(n k:Nat)(w:World)(M:n<18446744073709551616)(O:k<=8):Ret Tryz.prog 45 [.int .u64 (n:Int),.int .i64 (k:Int)] w λu w'=>(∃ b,u = .slice (some ⟨b,0,none⟩) k k/\YB w' b 5 (leB n k)/\w.heap.size<=b)/\Chg [] w w':=by
 have a:=crf w;refine zE2 Tryz.func45 rfl ?_;refine Sr λ_ z=>za rfl (zz (z (Sr λ_ x=>zm rfl ?_)));refine WL.makeY k k rfl rfl rfl rfl (Nat.le_refl _) oO oO rfl λD J c r p=>?_;have a:=a.ta r;refine za rfl (zz (x (zc λ_ v=>Sr λ_ t=>zm rfl (zn rfl (zm rfl (zz (t (CW.block ?_))))))));refine CW.loop (S:=λi:Nat=>[(0,.int .u64 (n:Int)),(5,.slice (some ⟨D,0,none⟩) k k),(10,.int .i64 (k:Int)),(11,.int .i64 (i:Int))]) (Inv:=KLw n k D w) (mu:=λi=>k-i) (0) ?_ ?_ ?_
 ·exact ⟨Nat.zero_le _,c,a⟩
 ·exact SLp
 rintro i I ⟨Q,c,a⟩;refine Sr λ_ s=>zL rfl rfl (zz (s (zc λ_ o=>?_)));refine zy rfl ?_ ?_<;>intro C<;>try simp only[qs] at C
 ·obtain ⟨m,H⟩ : ∃ m,k-i=m+1:=⟨k-i-1,by omega⟩
  rw[H] at c;have A:=fZ n i;refine zkk (o (zc λ_ l=>CW.block (Sr λ_ j=>zm rfl (za rfl (zz (j ?_))))));refine zR λ_ g=>?_;refine zm rfl (zm rfl (zm rfl (zm rfl ?_)));refine WL.ev (Ev.czj rfl rfl oO) rfl ?_;refine WL.ev (Ev.atx (b:=8*i) rfl rfl (by simp only[IntKind.bits];omega)) rfl ?_;rw[pow8];refine WL.ev (Ev.d9q rfl rfl) rfl ?_;refine WL.ev (Ev.ixB (i) rfl rfl oO oO) rfl ?_;refine WL.storeY rfl rfl c (by rw[List.length_append,List.length_replicate];omega) λF e q=>?_;have d:=set_pad (leB n i) (n/256^i%256) m;rw[A] at d;rw[d,<- dox,show m=k-(i+1) by omega] at e;have c:=e;have a:=a.step q (λy G=>.inr (by rw[List.mem_singleton.1 G];exact p));refine WL.nil (g _ _ _ (l ?_));refine zS λ_ f=>?_;(first|refine zi rfl rfl ?_|refine zo rfl rfl ?_);refine zm rfl (zz (f ?_));refine ⟨rfl,i+1,?_,?_,?_⟩
  ·exact SLp
  ·exact ⟨by omega,c,a⟩
  show k-(i+1)<k-i;omega
 have B:i=k:=by omega
 subst B;rw[Nat.sub_self,List.replicate_zero,List.append_nil] at c;refine CW.exit ?_;refine v (Sr λ_ h=>zm rfl (za rfl (zz (h ?_))));refine zr (zr1 rfl rfl ?_);exact ⟨⟨D,rfl,c,p⟩,a⟩
theorem cut_1{b j c:Nat}(h:j<c):cutAt (some ⟨b,0,none⟩) j c 1=some ⟨b,j,none⟩:=by
  unfold cutAt
  rw[if_neg oO]
  simp[Addr.add]
  intro q;exact q.symm
theorem pad_sgn(neg:Bool)(n:Nat):(if neg=true then (List.replicate (n+1) 0).set 0 1 else List.replicate (n+1) 0)=leB (if neg=true then 1 else 0) 1++List.replicate n 0:=by
  cases neg<;>rfl
theorem YB.pad{w:World}{b:Nat}{E:TypeId}{p xs:List Nat}{o k n:Nat}(h:YB w b E ((p++List.replicate k 0).take o++xs++(p++List.replicate k 0).drop (o+xs.length)))(a:p.length=o)(c:k=xs.length+n):YB w b E (p++xs++List.replicate n 0):=by
  subst a;subst c
  rwa [copy_pad] at h
structure KWr(x:Dy)(b1 b11 cx N:Nat)(ax:Option Addr)(H:List Nat)(w0:World)(i:Nat)(w:World):Prop where
  hi:i<=(wd x.m).length
  h1:BK w b1 89 [.bool x.neg,.slice ax (wd x.m).length cx,.int .i64 x.e]
  hb:YB w b11 5 ((H++(((wd x.m).take i).map λy=>leB y 4).flatten)++List.replicate (4*((wd x.m).length-i)) 0)
  ch:Chg [] w0 w
theorem cix(x:Dy)(rx:Value)(w:World)(c7:NU w rx (wd x.m))(he : -4096<=x.e/\x.e<=61439)(hl:(wd x.m).length<=65535):Ret Tryz.prog 46 [.agg [.bool x.neg,rx,.int .i64 x.e].toArray] w λu w'=>(∃ b,u = .slice (some ⟨b,0,none⟩) (aej x).length (aej x).length/\YB w' b 5 (aej x)/\w.heap.size<=b)/\Chg [] w w':=by
  obtain ⟨⟨T,R,rfl,c4,a8⟩,c6,f0⟩:=c7;obtain ⟨N,hN⟩ : ∃ N,N=5+4*(wd x.m).length:=⟨_,rfl⟩;have f:=crf w;refine zE1 Tryz.func46 rfl ?_;refine Sr λ_ c1=>?_;refine zBh rfl rfl rfl f λI d9 d d7 d3 b0 f=>?_;refine za rfl (zz (c1 (Sr λ_ c0=>zf rfl ?_)));refine WL.ev (Ev.load (v:=.slice T (wd x.m).length R) rfl rfl (d.at_ rfl)) rfl ?_;refine zn rfl ?_;refine WL.ev (Ev.czj rfl rfl oO) rfl ?_;(first|refine zi rfl rfl ?_|refine zo rfl rfl ?_);have b2:=f.size;refine WL.makeY N N rfl rfl oO oO (Nat.le_refl _) oO oO rfl λg e7 a z r=>?_;have a9:I≠g:=by have:=d.lt;have:=r;omega
  have f:=f.ta z;have d:=d.q5 z;have r:=Nat.le_trans b2 r;refine za rfl (zz (c0 ?_));refine CW.anx (λD s' w'=>D=[]/\BK w' I 89 [.bool x.neg,.slice T (wd x.m).length R,.int .i64 x.e]/\YB w' g 5 (leB (if x.neg=true then 1 else 0) 1++List.replicate (4+4*(wd x.m).length) 0)/\Chg [] w w'/\q9 [(1,.pointer (some ⟨I,0,none⟩)),(3,.slice (some ⟨g,0,none⟩) N N)] s') ?_ ?_
  · refine Sr λ_ b9=>zf rfl (zl d rfl rfl (zz (b9 ?_)));refine zy rfl ?_ ?_<;>intro Q<;>try simp only[qs] at Q
    · have O:=Q
      refine zS λ_ b7=>zm rfl ?_;refine WL.ev (Ev.ixB (0) rfl rfl rfl oO) rfl ?_;refine WL.storeY (v:=1) rfl rfl a (by rw[List.length_replicate];omega) λd8 A C=>?_;have d:=d.gZ C (by simpa using a9);have f:=f.step C (λy J=>.inr (by rw[List.mem_singleton.1 J];exact r));have t:=pad_sgn x.neg (4+4*(wd x.m).length);rw[if_pos O,show 4+4*(wd x.m).length+1=N by omega] at t;rw[t] at A;refine zz (b7 ?_);exact ⟨rfl,d,A,f,(by first|((repeat (first|exact q9.refl|refine q9.nJ (by rfl) ?_));done)|((repeat (first|exact q9.nil|refine q9.cons rfl ?_));done))⟩
    have O : ¬x.neg=true:=by simpa using Q
    have t:=pad_sgn x.neg (4+4*(wd x.m).length);rw[if_neg O,show 4+4*(wd x.m).length+1=N by omega] at t;rw[t] at a;refine zkk ?_;exact ⟨rfl,d,a,f,(by first|((repeat (first|exact q9.refl|refine q9.nJ (by rfl) ?_));done)|((repeat (first|exact q9.nil|refine q9.cons rfl ?_));done))⟩
  rintro _ s' wJ ⟨rfl,d,a,f,a7⟩;refine CW.sub a7 ?_;refine zc λ_ b8=>?_;refine CW.bkj [g] 8 rfl cJ λd2 Y h o=>?_;have f:=f.ta o;have d:=d.q5 o;have p:=d;have p:=d;have a:=a.q5 o;have l:I∉[g]:=by simp;omega
  refine wh 0 rfl h (eM rfl) (wh 1 rfl h (λ_ _=>show Ev _ _ _ _ _ (Value.slice (some ⟨g,1,none⟩) (N-(1)) (N-(1))) _ from (by rw[<- cut_1 (b:=g) (j:=1) (c:=N) oO];exact Ev.bqq (1) rfl rfl (by first|rfl|omega) oO)) (wh 2 rfl h (eF rfl) (wh 3 rfl h (λ_ M=>Ev.load (v:=.int .i64 x.e) rfl rfl ((p.gZ M l).at_ rfl)) ?_)));obtain ⟨B,c3⟩ : ∃ B:Nat,(B:Int)=x.e+4096:=⟨(x.e+4096).toNat,by omega⟩;refine wh 4 rfl h (λ_ _=>Ev.jZ rfl rfl oO) ?_;rw[<- c3];refine wh 5 rfl h (λ_ _=>Ev.dZ rfl rfl (iZ oO)) ?_;refine WH.k6 6 rfl oR hasF45 rfl rfl (bnj (B) 2 _ oO oD) λv e6 h'=>?_;obtain ⟨⟨f5,rfl,b5,d6⟩,s⟩:=h';have h:=h.ta s;refine ⟨h,?_⟩;have f:=f.trans s;have d:=d.q5 s;have a:=a.q5 s;have k:=fZ (B) 2;have q:(leB (if x.neg=true then 1 else 0) 1).length=1:=by rw[fZ]
  refine WH.copyY 7 (leB (B) 2) rfl oR h (List.mem_singleton.2 rfl) rfl rfl k.symm a b5.row oO oO (by rw[k,List.length_append,q,List.length_replicate];omega) rfl λe5 a H h=>?_;have a:=a.pad (n:=2+4*(wd x.m).length) q (by first|(rw[k];done)|(rw[k];omega));have d:=d.gZ H l;have f:=f.step H (λy J=>.inr (by rw[List.mem_singleton.1 J];exact r));refine WH.done oR (Y _ _ _ ?_);refine b8 (zc λ_ a6=>?_);refine CW.bkj [g] 8 rfl cJ λd1 X h o=>?_;have f:=f.ta o;have d:=d.q5 o;have p:=d;have p:=d;have a:=a.q5 o;have l:I∉[g]:=by simp;omega
  refine wh 0 rfl h (eM rfl) (wh 1 rfl h (λ_ _=>show Ev _ _ _ _ _ (Value.slice (some ⟨g,3,none⟩) (N-(3)) (N-(3))) _ from (by rw[<- cut_1 (b:=g) (j:=3) (c:=N) oO];exact Ev.bqq (3) rfl rfl (by first|rfl|omega) oO)) (wh 2 rfl h (eF rfl) (wh 3 rfl h (λ_ M=>Ev.load (v:=.slice T (wd x.m).length R) rfl rfl ((p.gZ M l).at_ rfl)) (wh 4 rfl h (λ_ _=>Ev.len rfl) (wh 5 rfl h (λ_ _=>Ev.dZ rfl rfl (iZ oO)) ?_)))));refine WH.k6 6 rfl oR hasF45 rfl rfl (bnj ((wd x.m).length) 2 _ oO oD) λv e4 h'=>?_;obtain ⟨⟨f4,rfl,b4,d5⟩,s⟩:=h';have h:=h.ta s;refine ⟨h,?_⟩;have f:=f.trans s;have d:=d.q5 s;have a:=a.q5 s;have k:=fZ ((wd x.m).length) 2;have q:((leB (if x.neg=true then 1 else 0) 1++leB B 2)).length=3:=by rw[List.length_append,fZ,fZ]
  refine WH.copyY 7 (leB ((wd x.m).length) 2) rfl oR h (List.mem_singleton.2 rfl) rfl rfl k.symm a b4.row oO oO (by rw[k,List.length_append,q,List.length_replicate];omega) rfl λe3 a G h=>?_;have a:=a.pad (n:=4*(wd x.m).length) q (by first|(rw[k];done)|(rw[k];omega));have d:=d.gZ G l;have f:=f.step G (λy J=>.inr (by rw[List.mem_singleton.1 J];exact r));refine WH.done oR (X _ _ _ ?_);refine a6 (zc λ_ a5=>Sr λ_ a4=>zf rfl ?_);refine WL.ev (Ev.load (v:=.slice T (wd x.m).length R) rfl rfl (d.at_ rfl)) rfl ?_;refine zn rfl (zm rfl (zz (a4 (CW.block ?_))));refine CW.loop (S:=λi:Nat=>[(1,.pointer (some ⟨I,0,none⟩)),(3,.slice (some ⟨g,0,none⟩) N N),(33,.slice T (wd x.m).length R),(34,.int .i64 ((wd x.m).length:Int)),(35,.int .i64 (i:Int))]) (Inv:=KWr x I g R N T ((leB (if x.neg=true then 1 else 0) 1++leB B 2)++leB (wd x.m).length 2) w) (mu:=λi=>(wd x.m).length-i) (0) ?_ ?_ ?_
  · exact ⟨Nat.zero_le _,d,by rw[List.take_zero,List.map_nil,List.flatten_nil,List.append_nil,Nat.sub_zero];exact a,f⟩
  · exact SLp
  rintro i wr ⟨hi,d,a,f⟩;refine Sr λ_ a3=>zL rfl rfl (zz (a3 (zc λ_ a2=>?_)));refine zy rfl ?_ ?_<;>intro c5<;>try simp only[qs] at c5
  · have e8:=c6.getD i
    refine zkk (a2 (zc λ_ a1=>CW.block (Sr λ_ a0=>zm rfl ?_)));refine WL.ev (Ev.ixR (i) rfl rfl (a8.q5 f) oO oO oT) rfl ?_;refine WL.ev (Ev.load rfl rfl ((a8.q5 f).u32 oF)) rfl ?_;refine za rfl (za rfl (zz (a0 ?_)));refine CW.bkj [g] 9 rfl cJ λd0 V h o=>?_;have f:=f.ta o;have d:=d.q5 o;have a:=a.q5 o;have l:I∉[g]:=by simp;omega
    refine wh 0 rfl h (eM rfl) (wh 1 rfl h (eM rfl) (wh 2 rfl h (λ_ _=>Ev.czj rfl rfl oO) (wh 3 rfl h (λ_ _=>Ev.jZ rfl rfl oO) ?_)));rw[show (5:Int)+4*(i:Int)=((5+4*i:Nat):Int) by omega];refine wh 4 rfl h (λ_ _=>show Ev _ _ _ _ _ (Value.slice (some ⟨g,5+4*i,none⟩) (N-(5+4*i)) (N-(5+4*i))) _ from (by rw[<- cut_1 (b:=g) (j:=5+4*i) (c:=N) oO];exact Ev.bqq (5+4*i) rfl rfl (by first|rfl|omega) oO)) (wh 5 rfl h (eM rfl) (wh 6 rfl h (λ_ _=>Ev.dZ rfl rfl (iZ oO)) ?_));refine WH.k6 7 rfl oR hasF45 rfl rfl (bnj ((wd x.m).getD i 0) 4 _ oO oD) λv e2 h'=>?_;obtain ⟨⟨f3,rfl,b3,d4⟩,s⟩:=h';have h:=h.ta s;refine ⟨h,?_⟩;have f:=f.trans s;have d:=d.q5 s;have a:=a.q5 s;have k:=fZ ((wd x.m).getD i 0) 4;have q:(((leB (if x.neg=true then 1 else 0) 1++leB B 2)++leB (wd x.m).length 2)++(((wd x.m).take i).map λy=>leB y 4).flatten).length=5+4*i:=by simp only[List.length_append,fZ,boq,List.length_take];omega
    refine WH.copyY 8 (leB ((wd x.m).getD i 0) 4) rfl oR h (List.mem_singleton.2 rfl) rfl rfl k.symm a b3.row oO oO (by rw[k,List.length_append,q,List.length_replicate];omega) rfl λe0 a F h=>?_;have a:=a.pad (n:=4*((wd x.m).length-(i+1))) q (by first|(rw[k];done)|(rw[k];omega));have d:=d.gZ F l;have f:=f.step F (λy J=>.inr (by rw[List.mem_singleton.1 J];exact r));rw[List.append_assoc ((leB (if x.neg=true then 1 else 0) 1++leB B 2)++leB (wd x.m).length 2),<- d7x oO] at a;refine WH.done oR (V _ _ _ ?_);refine a1 (zS λ_ U=>?_);(first|refine zi rfl rfl ?_|refine zo rfl rfl ?_);refine zm rfl (zz (U ?_));refine ⟨rfl,i+1,?_,?_,?_⟩
    · exact SLp
    · exact ⟨by omega,d,a,f⟩
    show (wd x.m).length-(i+1)<(wd x.m).length-i;omega
  have c2:i=(wd x.m).length:=by omega
  subst c2;rw[List.take_length,Nat.sub_self,Nat.mul_zero,List.replicate_zero,List.append_nil] at a;refine CW.exit ?_;refine a5 (Sr λ_ Z=>zm rfl (za rfl (zz (Z ?_))));refine zr (zr1 rfl rfl ?_);refine ⟨⟨g,?_,?_,r⟩,f⟩
  · rw[pJ,<- hN]
  have e1:(x.e+4096).toNat=B:=by omega
  unfold aej;rw[e1];exact a
theorem NU.at_{w w':World}{r:Value}{l:List Nat}(h:NU w r l)(a:Chg [] w w'):NU w' r l:=h.q5 a
def leV:List Nat->Nat
  | []=>0
  | x::l=>x+256*leV l
theorem leV_snoc(l:List Nat)(c:Nat):leV (l++[c])=leV l+c*256^l.length:=by
  induction l with
  | nil=>simp[leV]
  | cons x l ih=>
    rw[List.cons_append,leV,ih,leV,List.length_cons,Nat.pow_succ,Nat.mul_add,Nat.add_assoc]
    congr 2
    rw[Nat.mul_comm 256,Nat.mul_assoc]
def B8(l:List Nat):Prop:=∀ x∈l,x<256
theorem leV_lt{l:List Nat}(h:B8 l):leV l<256^l.length:=by
  induction l with
  | nil=>decide
  | cons x l ih=>
    have c:=h x (List.mem_cons_self ..)
    have b:=ih λy a=>h y (List.mem_cons_of_mem _ a)
    rw[leV,List.length_cons,Nat.pow_succ]
    omega
theorem B8.take{l:List Nat}(h:B8 l)(k:Nat):B8 (l.take k):=λx hx=>h x (List.mem_of_mem_take hx)
theorem B8.drop{l:List Nat}(h:B8 l)(k:Nat):B8 (l.drop k):=λx hx=>h x (List.mem_of_mem_drop hx)
theorem B8.getD{l:List Nat}(h:B8 l)(i:Nat):l.getD i 0<256:=by
  rw[List.getD_eq_getElem?_getD]
  cases q:l[i]? with
  | none=>decide
  | some x=>exact h x (List.mem_of_getElem? q)
def rdN(bs:List Nat)(p:Nat)(bad:Bool)(k:Nat):Nat×Nat×Bool:=if bad=true\/bs.length-p<k then (0,p,true) else (leV ((bs.drop p).take k),p+k,false)
def rdC(bs:List Nat)(p:Nat)(bad:Bool):Nat×Nat×Bool:=if 1099511627776<(rdN bs p bad 8).1 then (0,(rdN bs p bad 8).2.1,true) else rdN bs p bad 8
def isU8:Value->Bool
  | .int .u8 _=>true
  | _=>false
theorem Sx.RW.d6q{w w':World}{a:Option Addr}{l:List Nat}{b:Nat}{T:TypeId}{cs:List Value}(h:RW w a (l.map u8v))(f:BK w b T cs)(j:Chg [b] w w')(g : ∀ c∈cs,isU8 c=false):RW w' a (l.map u8v):=λi u hu=>by
  obtain ⟨ad,e,hcell⟩:=h i u hu
  refine ⟨ad,e,j.cell hcell λhm=>?_⟩
  simp only[List.mem_singleton] at hm
  have hu8:isU8 u=true:=by
    obtain ⟨x,_,rfl⟩:=List.mem_map.1 (List.mem_of_getElem? hu)
    rfl
  have d:=hcell
  cases had:ad.add i with
  | mk b' o' sp=>
    rw[had] at d hm
    simp only at hm
    subst hm
    cases sp with
    | none=>
      rw[a5j f] at d
      have:=g u (List.mem_of_getElem? d)
      rw[hu8] at this;cases this
    | some q=>
      have:w.cell? ⟨b',o',some q⟩=none:=by simp[World.cell?,show w.heap[b']?=_ from f]
      rw[this] at d;cases d
def TpM(lo:Nat)(w:World)(bt:Nat)(bs:List Nat)(p:Nat)(bad:Bool):Prop:=∃ a c,BK w bt 141 [.slice a (bs.length-p) c,.bool bad]/\RW w a ((bs.drop p).map u8v)/\p<=bs.length/\bs.length-p<=c/\bt<lo/\∀ ad,a=some ad->ad.block<lo
theorem TpM.q5{lo:Nat}{w w':World}{d:Nat}{e:List Nat}{p:Nat}{bad:Bool}(h:TpM lo w d e p bad)(b:Chg [] w w'):TpM lo w' d e p bad:=by
  obtain ⟨a,c,j,i,g,f⟩:=h
  exact ⟨a,c,j.q5 b,i.q5 b,g,f⟩
theorem TpM.gZ{lo:Nat}{w w':World}{i:Nat}{p:Nat}{j:List Nat}{bad:Bool}{T:List Nat}(h:TpM lo w i j p bad)(f:Chg T w w')(hT : ∀ b∈T,lo<=b):TpM lo w' i j p bad:=by
  obtain ⟨a,c,o,n,m,l,k,g⟩:=h
  exact ⟨a,c,o.gZ f (λd=>by have:=hT _ d;omega),n.keepB f (λq e d=>by have:=hT _ d;have:=g q e;omega),m,l,k,g⟩
theorem cutAt_lt{lo n c:Nat}{a:Option Addr}(h : ∀ ad,a=some ad->ad.block<lo): ∀ ad,cutAt a n c 1=some ad->ad.block<lo:=by
  intro ad e
  unfold cutAt at e
  split at e
  · first|exact h _ e|(cases e;done)|(obtain ⟨x,b,rfl⟩:=Option.map_eq_some_iff.1 e;exact h x b)
  · obtain ⟨x,b,rfl⟩:=Option.map_eq_some_iff.1 e
    have:=h x b
    simp only[Addr.add]
    split<;>first|exact this|(simpa using this)
theorem u8_tape(a:Option Addr)(m c:Nat)(bad:Bool): ∀ v∈[Value.slice a m c,.bool bad],isU8 v=false:=by
  intro v b
  simp only[List.mem_cons,List.not_mem_nil,or_false] at b
  rcases b with rfl|rfl<;>rfl
theorem take_spec(lo h p:Nat)(b:List Nat)(bad:Bool)(n:Nat)(w:World)(hT:TpM lo w h b p bad)(U:b.length<=140737488355328)(T:n<=1000):Ret Tryz.prog 148 [.pointer (some ⟨h,0,none⟩),.int .i64 (n:Int)] w λu w'=>((bad=true\/b.length-p<n)/\u = .slice none 0 0/\TpM lo w' h b p true/\Chg [h] w w')\/(¬(bad=true\/b.length-p<n)/\(∃ a,u = .slice a n n/\RW w' a (((b.drop p).take n).map u8v))/\TpM lo w' h b (p+n) false/\Chg [h] w w'):=by
  obtain ⟨a,c,f,I,Q,G,s,x⟩:=hT;have d:Chg [h] w w:=Chg.refl _ _;have t:=f;refine zE2 Tryz.func148 rfl ?_;refine Sr λ_ D=>za rfl (zz (D (zc λ_ C=>?_)));refine CW.oJ 18 (decide (bad=true\/b.length-p<n)) ?_ ?_
  · refine zS λ_ i=>zm rfl (zP rfl (zf rfl (zl f rfl rfl (zm rfl ?_))));refine zb ?_ ?_<;>intro F<;>try simp only[qs] at F
    · refine zv rfl (zv rfl (zv rfl (zv rfl (zv rfl (zv rfl (zv rfl (zt rfl rfl (zz (i ?_)))))))));refine ⟨rfl,rfl,q9.g7 rfl ?_ ?_⟩
      · first|(cases bad<;>first|(simp_all;done)|(simp;omega)|(simp_all;omega))
      exact SMg
    refine zw rfl (zm rfl (zw rfl (zm rfl (zw rfl (zP rfl (zw rfl (zf rfl (zw rfl ?_))))))));refine WL.ev (Ev.load (v:=.slice a (b.length-p) c) rfl rfl (f.at_ rfl)) rfl ?_;refine zw rfl (zn rfl (zw rfl (zG rfl rfl (ze rfl rfl (zz (i ?_))))));refine ⟨rfl,rfl,q9.g7 rfl ?_ ?_⟩
    · first|(cases bad<;>first|(simp_all;done)|(simp;omega)|(simp_all;omega))
    exact SMg
  refine zy rfl ?_ ?_<;>intro g<;>try simp only[qs] at g
  · have m:bad=true\/b.length-p<n:=g
    refine Sr λ_ B=>zm rfl (zP rfl (zf rfl ?_));refine WL.bJ rfl rfl o1 f oS rfl λO e r=>?_;(try simp only[qt] at e);have d:=d.s1 r;have f:=e;refine zz (B (Sr λ_ A=>za rfl (zz (A ?_))));refine zr (zr1 rfl rfl ?_);exact .inl ⟨m,rfl,⟨a,c,f,I.d6q t d (u8_tape _ _ _ _),Q,G,s,x⟩,d⟩
  have m : ¬(bad=true\/b.length-p<n):=λz=>by have J:=g;rcases z with z|z<;>simp_all<;>omega
  have R:n<=b.length-p:=by have:=λz=>m (.inr z);omega
  have H:bad=false:=by cases bad with|true=>exact absurd (.inl rfl) m|false=>rfl
  have o:((b.drop p).map u8v).length=b.length-p:=by rw[List.length_map,List.length_drop]
  refine zkk (C (Sr λ_ y=>zm rfl (zP rfl (zf rfl ?_))));refine WL.ev (Ev.load (v:=.slice a (b.length-p) c) rfl rfl (f.at_ rfl)) rfl ?_;refine zm rfl (zm rfl ?_);refine WL.ev (Ev.slice3n (n) (n) rfl rfl rfl rfl rfl oO oO) rfl ?_;refine za rfl (zz (y (Sr λ_ k=>zm rfl (zm rfl (zP rfl (zf rfl ?_))))));refine WL.ev (Ev.load (v:=.slice a (b.length-p) c) rfl rfl (f.at_ rfl)) rfl ?_;refine zm rfl ?_;refine WL.ev (Ev.bqq (n) rfl rfl rfl oO) rfl ?_;refine zP rfl (zf rfl ?_);refine WL.bJ rfl rfl o1 f oS rfl λM e q=>?_;(try simp only[qt] at e);have d:=d.s1 q;have f:=e;refine zz (k (Sr λ_ j=>zm rfl (za rfl (zz (j ?_)))));refine zr (zr1 rfl rfl ?_);have l:=I.d6q t d (u8_tape _ _ _ _);refine .inr ⟨m,⟨a,rfl,by rw[List.map_take];exact l.take n⟩,⟨cutAt a n c 1,c-n,?_,?_,by omega,by omega,s,cutAt_lt x⟩,d⟩
  · rw[show b.length-(p+n)=b.length-p-n by omega,<- H];exact f
  have J:=l.cut n c (by rw[o];omega) (by rw[o];omega)
  rwa [<- List.map_drop,List.drop_drop] at J
theorem Sx.RW.u8{w:World}{a:Option Addr}{l:List Nat}{j:Nat}(h:RW w a (l.map u8v))(b:j<l.length):w.cell? (adr a j)=some (.int .u8 ((l.getD j 0:Nat):Int)):=h.at_ (map_at u8v 0 b)
theorem leV_take{l:List Nat}{i:Nat}(h:i<l.length):leV (l.take (i+1))=leV (l.take i)+l.getD i 0*256^i:=by
  rw[arx h,leV_snoc,List.length_take,Nat.min_eq_left oO]
theorem pow_le8{i:Nat}(h:i<=7):256^i<=72057594037927936:=Nat.le_trans (Nat.pow_le_pow_right oD h) oD
theorem window{w:World}{lo c p k:Nat}{b:List Nat}{bad:Bool}{v:Value}{w':World}(n:B8 b)(o:p<=b.length)
    (h:((bad=true\/b.length-p<k)/\v = .slice none 0 0/\TpM lo w' c b p true/\Chg [c] w w')\/(¬(bad=true\/b.length-p<k)/\(∃ a,v = .slice a k k/\RW w' a (((b.drop p).take k).map u8v))/\TpM lo w' c b (p+k) false/\Chg [c] w w')) :
    ∃ a l,v = .slice a l.length l.length/\RW w' a (l.map u8v)/\B8 l/\l.length<=k/\leV l=(rdN b p bad k).1/\TpM lo w' c b (rdN b p bad k).2.1 (rdN b p bad k).2.2/\Chg [c] w w':=by
  rcases h with ⟨d,rfl,g,f⟩|⟨d,⟨a,rfl,j⟩,g,f⟩
  · have e:rdN b p bad k=(0,p,true):=if_pos d
    rw[e]
    exact ⟨none,[],rfl,RW.nil,λx i=>(by cases i),Nat.zero_le _,rfl,g,f⟩
  · have e:rdN b p bad k=(leV ((b.drop p).take k),p+k,false):=if_neg d
    have q:k<=b.length-p:=by have:=λz=>d (.inr z);omega
    have m:((b.drop p).take k).length=k:=by rw[List.length_take,List.length_drop];omega
    rw[e]
    exact ⟨a,(b.drop p).take k,by rw[m],j,(n.drop p).take k,by omega,rfl,g,f⟩
structure KNm(l:List Nat)(a:Option Addr)(lo bt:Nat)(bs:List Nat)(q:Nat)(bd:Bool)(w0:World)(i:Nat)(w:World):Prop where
  hi:i<=l.length
  r:RW w a (l.map u8v)
  t:TpM lo w bt bs q bd
  ch:Chg [bt] w0 w
theorem ajx(lo e p:Nat)(c:List Nat)(bad:Bool)(k:Nat)(w:World)(hT:TpM lo w e c p bad)(M:c.length<=140737488355328)(O:B8 c)(U:k<=8):Ret Tryz.prog 83 [.pointer (some ⟨e,0,none⟩),.int .i64 (k:Int)] w λu w'=>u = .int .u64 ((rdN c p bad k).1:Int)/\TpM lo w' e c (rdN c p bad k).2.1 (rdN c p bad k).2.2/\Chg [e] w w':=by
 have B:p<=c.length:=hT.choose_spec.choose_spec.2.2.1;refine zE2 Tryz.func83 rfl ?_;refine Sr λ_ z=>za rfl (zz (z (Sr λ_ y=>za rfl (zz (y (zc λ_ x=>Sr λ_ t=>zm rfl (zm rfl ?_)))))));refine WL.call hasF148 rfl rfl (take_spec lo e p c bad k _ hT M oO) λv T Q=>?_;obtain ⟨a,l,rfl,o,r,I,C,hT,d⟩:=window O B Q;refine zn rfl (zm rfl (zz (t (CW.block ?_))));refine CW.loop (S:=λi:Nat=>[(5,.int .u64 ((leV (l.take i):Nat):Int)),(10,.slice a l.length l.length),(11,.int .i64 (l.length:Int)),(12,.int .i64 (i:Int))]) (Inv:=KNm l a lo e c (rdN c p bad k).2.1 (rdN c p bad k).2.2 w) (mu:=λi=>l.length-i) (0) ?_ ?_ ?_
 ·exact ⟨Nat.zero_le _,o,hT,d⟩
 ·exact SLp
 rintro i R ⟨V,o,hT,d⟩;refine Sr λ_ s=>zL rfl rfl (zz (s (zc λ_ n=>?_)));refine zy rfl ?_ ?_<;>intro F<;>try simp only[qs] at F
 ·have J:=r.getD i
  have H:=pow_le8 (i:=i) oO;have q:=leV_lt (r.take i);rw[List.length_take,Nat.min_eq_left oO] at q;have A:=leV_take (l:=l) (i:=i) oO;have G:l.getD i 0*256^i<=255*256^i:=Nat.mul_le_mul_right _ oO;refine zkk (n (zc λ_ m=>CW.block (Sr λ_ j=>zm rfl ?_)));refine WL.ev (Ev.ixR (i) rfl rfl o oO oO oT) rfl ?_;refine WL.ev (Ev.load rfl rfl (o.u8 oO)) rfl ?_;refine za rfl (za rfl (zz (j ?_)));refine zR λ_ g=>?_;refine zm rfl (zm rfl ?_);refine WL.ev (Ev.dZ rfl rfl (iZ oO)) rfl ?_;refine zm rfl ?_;refine WL.ev (Ev.czj rfl rfl oO) rfl ?_;refine WL.ev (Ev.apx (a:=l.getD i 0) (b:=8*i) rfl rfl) rfl ?_;rw[pow8,Nat.mod_eq_of_lt oO];refine WL.ev (Ev.orU rfl rfl rfl (by simp only[IntKind.bits];omega) (by simp only[IntKind.bits];omega)) rfl ?_;rw[show leV (l.take i)||| l.getD i 0*256^i=leV (l.take (i+1)) from by rw[A,<- pow8,agj (by rw[pow8];exact q)]];refine za rfl ?_;refine WL.nil (g _ _ _ (m ?_));refine zS λ_ f=>?_;(first|refine zi rfl rfl ?_|refine zo rfl rfl ?_);refine zm rfl (zz (f ?_));refine ⟨rfl,i+1,?_,?_,?_⟩
  ·exact SLp
  ·exact ⟨by omega,o,hT,d⟩
  show l.length-(i+1)<l.length-i;omega
 have D:i=l.length:=by omega
 subst D;rw[List.take_length,C];refine CW.exit ?_;refine x (Sr λ_ h=>zm rfl (za rfl (zz (h ?_))));refine zr (zr1 rfl rfl ?_);exact ⟨rfl,hT,d⟩
theorem TpM.set{x:Bool}{w w':World}{lo d p:Nat}{f:List Nat}{bad:Bool}{a:Option Addr}{m c:Nat}(h:TpM lo w d f p bad)(l:BK w d 141 [.slice a m c,.bool bad])(b:BK w' d 141 [.slice a m c,.bool x])(k:Chg [d] w w'):TpM lo w' d f p x:=by
  obtain ⟨j,i,g,t,s,r,q,o⟩:=h
  have e:=l.symm.trans g
  have n:=t.d6q g k (u8_tape _ _ _ _)
  injection e with e
  injection e with e _
  have v:[Value.slice a m c,.bool bad]=[.slice j (f.length-p) i,.bool bad]:=by
    have:=congrArg Array.toList e;simpa using this
  injection v with u _
  rw[u] at b
  exact ⟨j,i,b,n,s,r,q,o⟩
theorem crj{a:List Nat}(b:B8 a)(p:Nat)(bad:Bool)(k:Nat)(d:k<=8):(rdN a p bad k).1<18446744073709551616:=by
  unfold rdN;split
  · show (0:Nat)<_;decide
  · have g:=leV_lt ((b.drop p).take k)
    have c:((a.drop p).take k).length<=8:=by rw[List.length_take];omega
    have f:256^((a.drop p).take k).length<=256^8:=Nat.pow_le_pow_right oD c
    have e:(256:Nat)^8=18446744073709551616:=by decide
    show leV _<_
    omega
theorem count_spec21(lo o p:Nat)(b:List Nat)(bad:Bool)(w:World)(hT:TpM lo w o b p bad)(G:b.length<=140737488355328)(A:B8 b):Ret Tryz.prog 80 [.pointer (some ⟨o,0,none⟩)] w λu w'=>u = .int .i64 ((rdC b p bad).1:Int)/\TpM lo w' o b (rdC b p bad).2.1 (rdC b p bad).2.2/\Chg [o] w w':=by
 refine zE1 Tryz.func80 rfl ?_;refine Sr λ_ y=>za rfl (zz (y (Sr λ_ x=>zm rfl ?_)));refine WL.call hasF83 rfl rfl (ajx lo o p b bad 8 _ hT G A oD) λv J H=>?_;obtain ⟨rfl,hT,k⟩:=H;have j:=crj A p bad 8 oD;generalize hN:rdN b p bad 8=R at *;obtain ⟨n,q,I⟩:=R;dsimp only at hT j;dsimp only;refine za rfl (zz (x (zc λ_ t=>Sr λ_ s=>zm rfl (zG rfl rfl (zz (s ?_))))));refine zy rfl ?_ ?_<;>intro f<;>try simp only[qs] at f
 ·have l:1099511627776<n:=by have:=f;omega
  have e:rdC b p bad=(0,q,true):=by unfold rdC;rw[hN,if_pos l]
  obtain ⟨a,c,z,M,O,C,D,F⟩:=id hT;refine Sr λ_ r=>zm rfl (zP rfl (zf rfl ?_));refine WL.bJ rfl rfl rfl z oS rfl λB m d=>?_;simp only[List.set_cons_succ,List.set_cons_zero] at m;refine zz (r (Sr λ_ h=>za rfl (zz (h ?_))));refine zr (zr1 rfl rfl ?_);rw[e];exact ⟨rfl,hT.set z m d,k.trans d⟩
 have i : ¬1099511627776<n:=by have:=f;omega
 have e:rdC b p bad=(n,q,I):=by unfold rdC;rw[hN,if_neg i]
 refine zkk (t (Sr λ_ g=>zm rfl ?_));refine WL.ev (Ev.dZ rfl rfl (tQ oO)) rfl ?_;refine za rfl (zz (g ?_));refine zr (zr1 rfl rfl ?_);rw[e];exact ⟨rfl,hT,k⟩
theorem aix{a:List Nat}(b:B8 a)(p:Nat)(bad:Bool)(k:Nat):(rdN a p bad k).1<256^k:=by
  unfold rdN;split
  · exact Nat.pow_pos oD
  · have d:=leV_lt ((b.drop p).take k)
    have c:((a.drop p).take k).length<=k:=by rw[List.length_take];omega
    exact Nat.lt_of_lt_of_le d (Nat.pow_le_pow_right oD c)
def rdW(bs:List Nat)(p:Nat)(bad:Bool):Nat->List Nat×Nat×Bool
  | 0=>([],p,bad)
  | n+1=>((rdW bs p bad n).1++[(rdN bs (rdW bs p bad n).2.1 (rdW bs p bad n).2.2 4).1],(rdN bs (rdW bs p bad n).2.1 (rdW bs p bad n).2.2 4).2)
theorem auq(a:List Nat)(p:Nat)(bad:Bool)(n:Nat):(rdW a p bad n).1.length=n:=by
  induction n with
  | zero=>rfl
  | succ n ih=>rw[rdW];simp[ih]
theorem rdW_W{a:List Nat}(b:B8 a)(p:Nat)(bad:Bool)(n:Nat):W (rdW a p bad n).1:=by
  induction n with
  | zero=>exact awj
  | succ n ih=>rw[rdW];exact aoq.2 ⟨ih,yX.2 ⟨aix b _ _ 4,awj⟩⟩
def rdD(bs:List Nat)(p:Nat)(bad:Bool):Bool×List Nat×Int×Nat×Bool:=
  match rdN bs p bad 1 with
  | (n1,p1,d1)=>match rdN bs p1 d1 2 with
    | (n2,p2,d2)=>match rdN bs p2 d2 2 with
      | (n3,p3,d3)=>if 1<n1\/160<n3 then (false,[],0,p3,true) else
        match rdW bs p3 d3 n3 with
        | (ws,q,bd)=>(decide ((n1:Int)=1),ws,(n2:Int)-4096,q,if n3=0 then decide (bd=true\/(n1:Int)=1\/(n2:Int)-4096≠0) else decide (bd=true\/ws.getD 0 0%2=0\/ws.getD (n3-1) 0=0))
theorem TpM.q8{lo:Nat}{w w':World}{a:Nat}{p:Nat}{d:List Nat}{bad:Bool}{b:Nat}{T:TypeId}{cs:List Value}(h:TpM lo w a d p bad)(_:BK w b T cs)(f:Chg [b] w w')(_ : ∀ c∈cs,abq c=false)(e:lo<=b:=by omega):TpM lo w' a d p bad:=h.gZ f λy hy=>by rw[List.mem_singleton.1 hy];exact e
structure KDy(lo bt b2 b6 n3 p3:Nat)(ng d3:Bool)(e:Int)(bs:List Nat)(w0:World)(g:Nat×Value)(w:World):Prop where
  hi:g.1<=n3
  t:TpM lo w bt bs (rdW bs p3 d3 g.1).2.1 (rdW bs p3 d3 g.1).2.2
  h2:BK w b2 89 [.bool false,.slice none 0 0,.int .i64 0]
  h6:BK w b6 89 [.bool ng,g.2,.int .i64 e]
  g:GR w 162 kQ w0.heap.size [b2,b6] g.2 (rdW bs p3 d3 g.1).1
  ch:Chg [bt] w0 w
theorem c8j(lo z p:Nat)(s:List Nat)(bad:Bool)(w:World)(hT:TpM lo w z s p bad)(hL:s.length<=140737488355328)(hB:B8 s)(h6:lo<=w.heap.size):Ret Tryz.prog 81 [.pointer (some ⟨z,0,none⟩)] w λu w'=>∃ sl,u = .agg [.bool (rdD s p bad).1,sl,.int .i64 (rdD s p bad).2.2.1].toArray/\NU w' sl (rdD s p bad).2.1/\TpM lo w' z s (rdD s p bad).2.2.2.1 (rdD s p bad).2.2.2.2/\Chg [z] w w':=by
 have l1:z<lo:=hT.choose_spec.choose_spec.2.2.2.2.1;have j:Chg [z] w w:=Chg.refl _ _;refine zE1 Tryz.func81 rfl ?_;refine Sr λ_ g4=>?_;refine zAh rfl rfl j λb2 m4 d e3 l0 e1 j=>?_;have hT:=hT.q5 e3;refine zz (g4 (Sr λ_ g3=>zm rfl ?_));refine WL.call hasF83 rfl rfl (ajx lo z _ s _ 1 _ hT hL hB oD) λv w1 h'=>?_;obtain ⟨rfl,hT,Q⟩:=h';have h5:=aix hB p bad 1;generalize hR1:rdN s p bad 1=R1 at *;obtain ⟨n1,p1,d1⟩:=R1;dsimp only at hT h5;dsimp only;have j:=j.step Q (λy t=>.inl t);have d:=d.gZ Q oT;refine zm rfl ?_;refine WL.call hasF83 rfl rfl (ajx lo z _ s _ 2 _ hT hL hB oD) λv w2 h'=>?_;obtain ⟨rfl,hT,Q⟩:=h';have h4:=aix hB p1 d1 2;generalize hR2:rdN s p1 d1 2=R2 at *;obtain ⟨n2,p2,d2⟩:=R2;dsimp only at hT h4;dsimp only;have j:=j.step Q (λy t=>.inl t);have d:=d.gZ Q oT;refine WL.ev (Ev.dZ rfl rfl (tQ oO)) rfl ?_;refine WL.ev (Ev.dX rfl rfl oO) rfl ?_;refine zm rfl ?_;refine WL.call hasF83 rfl rfl (ajx lo z _ s _ 2 _ hT hL hB oD) λv w3 h'=>?_;obtain ⟨rfl,hT,Q⟩:=h';have h3:=aix hB p2 d2 2;generalize hR3:rdN s p2 d2 2=R3 at *;obtain ⟨C,I,R⟩:=R3;dsimp only at hT h3;dsimp only;have j:=j.step Q (λy t=>.inl t);have d:=d.gZ Q oT;refine WL.ev (Ev.dZ rfl rfl (tQ oO)) rfl ?_;refine za rfl (za rfl (za rfl (zz (g3 (zc λ_ g2=>?_)))));refine CW.oJ 21 (decide (1<n1\/160<C)) ?_ ?_
 ·refine zS λ_ b9=>zm rfl (zG rfl rfl (zm rfl ?_));refine zb ?_ ?_<;>intro i2<;>try simp only[qs] at i2
  ·refine zv rfl (zv rfl (zt rfl rfl (zz (b9 ?_))));refine ⟨rfl,rfl,q9.g7 rfl ?_ ?_⟩
   ·first|(exact decide_eq_decide.2 oO)|(simp_all;done)|(simp;omega)|(simp_all;omega)|skip
   exact SMg
  refine zw rfl (zm rfl (zw rfl (zG rfl rfl (ze rfl rfl (zz (b9 ?_))))));refine ⟨rfl,rfl,q9.g7 rfl ?_ ?_⟩
  ·first|(exact decide_eq_decide.2 oO)|(simp_all;done)|(simp;omega)|(simp_all;omega)|skip
  exact SMg
 refine zy rfl ?_ ?_<;>intro b1<;>try simp only[qs] at b1
 ·have hq:1<n1\/160<C:=b1
  have hD:rdD s p bad=(false,[],0,I,true):=by unfold rdD;rw[hR1];dsimp only;rw[hR2];dsimp only;rw[hR3];dsimp only;rw[if_pos hq]
  obtain ⟨a,c,x,hr,hp,e4,e5,e7⟩:=id hT;refine Sr λ_ g1=>zm rfl (zP rfl (zf rfl ?_));refine WL.bJ rfl rfl rfl x oS rfl λH r h=>?_;simp only[List.set_cons_succ,List.set_cons_zero] at r;have hT:=hT.set x r h;have d:=d.gZ h oT;have j:=j.step h (λy t=>.inl t);refine zz (g1 (Sr λ_ g0=>?_));refine WL.ev (Ev.build (vs:=_) (cs:=[_,_,_]) rfl rfl) rfl ?_;refine zss rfl rfl ao d rfl λm2 l a8=>?_;(try simp only[qt] at l);have j:=j.s1 a8;have hT:=hT.q8 d a8 an;have d:=l;refine zz (g0 ?_);refine zr (k8.qJ rfl (aX.cell rfl (BK.fX d rfl oS)) ?_);rw[hD];refine ⟨_,rfl,NU.nil,hT,j⟩
 have hq : ¬(1<n1\/160<C):=b1;refine zkk (g2 (Sr λ_ d9=>zm rfl (zq rfl rfl (zm rfl ?_))));refine WL.ev (Ev.build (vs:=_) (cs:=[_,_,_]) rfl rfl) rfl ?_;refine zAh rfl rfl j λb6 m3 k a9 e2 e0 j=>?_;have hT:=hT.q5 a9;have f3:=zdd d.lt e2;have d:=d.q5 a9;refine zss rfl rfl ao k rfl λm1 G a1=>?_;(try simp only[qt] at G);have j:=j.s1 a1;have d:=d.gZ a1 oT;have hT:=hT.q8 k a1 an;have k:=G;refine zz (d9 (zc λ_ d8=>Sr λ_ d7=>zm rfl (zm rfl (zz (d7 (CW.block ?_))))));refine CW.loop (S:=λg:Nat×Value=>[(0,.pointer (some ⟨z,0,none⟩)),(2,.pointer (some ⟨b2,0,none⟩)),(3,.int .u64 (n1:Int)),(4,.int .i64 ((n2:Int)-4096)),(5,.int .i64 (C:Int)),(6,.pointer (some ⟨b6,0,none⟩)),(30,.int .i64 (C:Int)),(31,.int .i64 (g.1:Int))]) (Inv:=KDy lo z b2 b6 C I (decide ((n1:Int)=1)) R ((n2:Int)-4096) s w) (mu:=λg=>C-g.1) ((0,.slice none 0 0)) ?_ ?_ ?_
 ·exact ⟨Nat.zero_le _,hT,d,k,GR.nil,j⟩
 ·exact SLp
 rintro ⟨i,vi⟩ wr ⟨hi,hT,d,k,o,j⟩;dsimp only at hi hT k o;dsimp only;have l2:z≠b6:=by omega
 have l3:z≠b2:=by omega
 refine Sr λ_ d6=>zL rfl rfl (zz (d6 (zc λ_ d5=>?_)));refine zy rfl ?_ ?_<;>intro i4<;>try simp only[qs] at i4
 ·refine zkk (d5 (zc λ_ d0=>CW.block ?_));refine CW.regionKT (z::vi.ownBlock.toList) 8 9 rfl cJ λk2 c1 T X=>?_
  have j:=j.ta X;have d:=d.q5 X;have k:=k.q5 X;have hT:=hT.q5 X;have b3:=k;have o:=o.q5 X;have l4:=o.nu (rdW_W hB _ _ _) (by rw[auq];omega);have h1:b6∉z::vi.ownBlock.toList:=λhm=>by
   rcases List.mem_cons.1 hm with e|hm
   · omega
   exact o.notin (.inl oS) hm
  refine wk 0 rfl T (eF rfl) (wk 1 rfl T (λ_ g9=>Ev.load (v:=vi) rfl rfl ((b3.gZ g9 h1).at_ rfl)) (wk 2 rfl T (eM rfl) ?_));refine WK.k6 3 rfl oR hasF83 rfl rfl (ajx lo z _ s _ 4 _ hT hL hB oD) λv m6 h'=>?_;obtain ⟨rfl,hT,Q⟩:=h';have T:=T.step Q (λy t=>.inl (by rw[List.mem_singleton.1 t];exact List.mem_cons_self ..));refine ⟨T,?_⟩;have j:=j.step Q (λy t=>.inl t);have d:=d.gZ Q oT;have k:=k.gZ Q oT;have o:=o.gZ Q (λy t=>.inr (.inl (by rw[List.mem_singleton.1 t];omega)));have h2:=aix hB (rdW s I R i).2.1 (rdW s I R i).2.2 4;have b4:rdW s I R (i+1)=((rdW s I R i).1++[(rdN s (rdW s I R i).2.1 (rdW s I R i).2.2 4).1],(rdN s (rdW s I R i).2.1 (rdW s I R i).2.2 4).2):=by rw[rdW]
  generalize hR4:rdN s (rdW s I R i).2.1 (rdW s I R i).2.2 4=R4 at *;obtain ⟨n4,p4,d4⟩:=R4;dsimp only at hT h2 b4;dsimp only;refine wk 4 rfl T (λ_ _=>Ev.dZ rfl rfl (in_u32 oO)) ?_;refine WK.bgq (m:=1) (cs:=[kQ n4]) 5 rfl oR T oD oD rfl oR rfl λn0 f7 B T=>?_;have e6:=B.at_;have hT:=hT.q5 B.chg;have o:=o.q5 B.chg;have j:=j.trans (Chg.any B.chg);have d:=d.q5 B.chg;have k:=k.q5 B.chg;have e8 : ∀ b∈[b2,b6],b<f7.heap.size:=λb hm=>by
   simp only[List.mem_cons,List.not_mem_nil,or_false] at hm;rcases hm with rfl|rfl
   · exact d.lt
   exact k.lt
  refine WK.growL (f:=kQ) (news:=[n4]) 6 rfl oR (by rfl) (λ_=>rfl) rfl rfl o rfl (RW.one_f e6 rfl) j.size e8 (by simp[auq];omega) (by simp[auq];omega) rfl (λw9 hc _=>T.step hc (λy t=>.inl (List.mem_cons_of_mem _ t))) λf9 m5 a7 F=>?_;have hT:=hT.gZ F (λy t=>Nat.le_trans h6 (o.ge y t));have d:=d.gZ F (o.notin (.inl oS));have k:=k.gZ F (o.notin (.inl oS));have j:=GR.frame o F j (Nat.le_refl _);have o:=a7;have k5:=a7.one;have T:=T.step F (λy t=>.inl (List.mem_cons_of_mem _ t));refine wk 7 rfl T (eF rfl) ?_;refine WK.bJ 8 rfl oR oR rfl rfl o1 k oS rfl λm0 G O=>?_;(try simp only[qt] at G);have j:=j.s1 O;have d:=d.gZ O oT;have hT:=hT.q8 k O an;have k:=G;refine WK.done oR (c1 _ _ _ ?_);have o:=o.gZ O (λy t=>.inl (by rw[List.mem_singleton.1 t];simp));refine d0 (zS λ_ c0=>?_);(first|refine zi rfl rfl ?_|refine zo rfl rfl ?_);refine zm rfl (zz (c0 ?_));refine ⟨rfl,(i+1,f9),?_,?_,?_⟩
  ·exact SLp
  ·refine ⟨by dsimp only;omega,?_,d,k,?_,j⟩
   · rw[b4];exact hT
   rw[b4];exact o
  show C-(i+1)<C-i;omega
 have h7:C=i:=by omega
 subst h7;have g5:=auq s I R C;have e9:=rdW_W hB I R C;generalize hRW:rdW s I R C=RR at *;obtain ⟨ws,q,bd⟩:=RR;dsimp only at hT o g5 e9;have m7:=o.one;have n:=o.nu e9 oO;refine CW.exit ?_;refine d8 (zc λ_ A=>Sr λ_ c9=>zm rfl (zq rfl rfl (zz (c9 ?_))));refine zy rfl ?_ ?_<;>intro b0<;>try simp only[qs] at b0
 ·have h0:C=0:=by have:=b0;omega
  have hD:rdD s p bad=(decide ((n1:Int)=1),ws,((n2:Int)-4096),q,decide (bd=true\/(n1:Int)=1\/(n2:Int)-4096≠0)):=by unfold rdD;rw[hR1];dsimp only;rw[hR2];dsimp only;rw[hR3];dsimp only;rw[if_neg hq,hRW];dsimp only;rw[if_pos h0]
  obtain ⟨a,c,x,hr,hp,e4,e5,e7⟩:=id hT;refine zR λ_ V=>?_;refine zm rfl (zm rfl (zP rfl (zf rfl ?_)));refine WL.ev (Ev.load (v:=.bool bd) rfl rfl (x.at_ rfl)) rfl ?_;refine zm rfl ?_;refine zb ?_ ?_<;>intro i1<;>try simp only[qs] at i1
  ·refine zv rfl (zv rfl (zt rfl rfl (zm rfl (zv rfl (zv rfl (zt rfl rfl (zP rfl (zf rfl ?_))))))));refine WL.bJ rfl rfl rfl x oS rfl λH r h=>?_
   simp only[List.set_cons_succ,List.set_cons_zero] at r;have hT:=hT.set x r h;have d:=d.gZ h oT;have k:=k.gZ h oT;have n:=n.q8 x h (by intro v D;simp only[List.mem_cons,List.not_mem_nil,or_false] at D;rcases D with rfl|rfl<;>rfl);have j:=j.step h (λy t=>.inl t);refine WL.nil (V _ _ _ (A ?_));refine Sr λ_ c8=>zg k rfl ?_;refine zss rfl rfl ao d rfl λl9 l a0=>?_;(try simp only[qt] at l);have j:=j.s1 a0;have hT:=hT.q8 d a0 an;have n:=n.q8 d a0 an;have d:=l;refine zz (c8 ?_);refine zr (k8.qJ rfl (aX.cell rfl (BK.fX d rfl oS)) ?_);rw[hD];refine ⟨_,rfl,n,?_,j⟩;refine Eq.mp (congrArg (TpM lo _ z s q) ?_) hT;dsimp only
   first|(simp_all;done)|(refine (decide_eq_true ?_).symm;simp_all;done)|(refine decide_eq_decide.2 ?_;simp_all;done)|(refine decide_eq_decide.2 ?_;simp_all;omega)|(refine (decide_eq_true (.inr (.inl ?_))).symm;omega)|(refine (decide_eq_true (.inr (.inl ?_))).symm;simp_all;omega)
  refine zw rfl (zf rfl (zw rfl (zl k rfl rfl (ze rfl rfl (zm rfl ?_)))));refine zb ?_ ?_<;>intro i0<;>try simp only[qs] at i0
  ·refine zv rfl (zv rfl (zt rfl rfl (zP rfl (zf rfl ?_))));refine WL.bJ rfl rfl rfl x oS rfl λH r h=>?_
   simp only[List.set_cons_succ,List.set_cons_zero] at r;have hT:=hT.set x r h;have d:=d.gZ h oT;have k:=k.gZ h oT;have n:=n.q8 x h (by intro v D;simp only[List.mem_cons,List.not_mem_nil,or_false] at D;rcases D with rfl|rfl<;>rfl);have j:=j.step h (λy t=>.inl t);refine WL.nil (V _ _ _ (A ?_));refine Sr λ_ c7=>zg k rfl ?_;refine zss rfl rfl ao d rfl λl8 l Z=>?_;(try simp only[qt] at l);have j:=j.s1 Z;have hT:=hT.q8 d Z an;have n:=n.q8 d Z an;have d:=l;refine zz (c7 ?_);refine zr (k8.qJ rfl (aX.cell rfl (BK.fX d rfl oS)) ?_);rw[hD];refine ⟨_,rfl,n,?_,j⟩;refine Eq.mp (congrArg (TpM lo _ z s q) ?_) hT;dsimp only
   first|(simp_all;done)|(refine (decide_eq_true ?_).symm;simp_all;done)|(refine decide_eq_decide.2 ?_;simp_all;done)|(refine decide_eq_decide.2 ?_;simp_all;omega)|(refine (decide_eq_true (.inr (.inl ?_))).symm;omega)|(refine (decide_eq_true (.inr (.inl ?_))).symm;simp_all;omega)
  refine zw rfl (zm rfl (zw rfl (zN rfl rfl (ze rfl rfl (zP rfl (zf rfl ?_))))));refine WL.bJ rfl rfl rfl x oS rfl λH r h=>?_;simp only[List.set_cons_succ,List.set_cons_zero] at r;have hT:=hT.set x r h;have d:=d.gZ h oT;have k:=k.gZ h oT;have n:=n.q8 x h (by intro v D;simp only[List.mem_cons,List.not_mem_nil,or_false] at D;rcases D with rfl|rfl<;>rfl);have j:=j.step h (λy t=>.inl t);refine WL.nil (V _ _ _ (A ?_));refine Sr λ_ c5=>zg k rfl ?_;refine zss rfl rfl ao d rfl λl7 l Y=>?_;(try simp only[qt] at l);have j:=j.s1 Y;have hT:=hT.q8 d Y an;have n:=n.q8 d Y an;have d:=l;refine zz (c5 ?_);refine zr (k8.qJ rfl (aX.cell rfl (BK.fX d rfl oS)) ?_);rw[hD];refine ⟨_,rfl,n,?_,j⟩;refine Eq.mp (congrArg (TpM lo _ z s q) ?_) hT;dsimp only
  first|(simp_all;done)|(refine (decide_eq_true ?_).symm;simp_all;done)|(refine decide_eq_decide.2 ?_;simp_all;done)|(refine decide_eq_decide.2 ?_;simp_all;omega)|(refine (decide_eq_true (.inr (.inl ?_))).symm;omega)|(refine (decide_eq_true (.inr (.inl ?_))).symm;simp_all;omega)
 have h0 : ¬C=0:=by have:=b0;omega
 have hD:rdD s p bad=(decide ((n1:Int)=1),ws,((n2:Int)-4096),q,decide (bd=true\/ws.getD 0 0%2=0\/ws.getD (C-1) 0=0)):=by unfold rdD;rw[hR1];dsimp only;rw[hR2];dsimp only;rw[hR3];dsimp only;rw[if_neg hq,hRW];dsimp only;rw[if_neg h0]
 obtain ⟨a6,c6,rfl,i3,a3⟩:=o.row;obtain ⟨a,c,x,hr,hp,e4,e5,e7⟩:=id hT;refine zR λ_ U=>?_;refine zm rfl (zm rfl (zP rfl (zf rfl ?_)));refine WL.ev (Ev.load (v:=.bool bd) rfl rfl (x.at_ rfl)) rfl ?_;refine zm rfl ?_;refine zb ?_ ?_<;>intro h9<;>try simp only[qs] at h9
 ·refine zv rfl (zv rfl (zv rfl (zv rfl (zv rfl (zv rfl (zt rfl rfl (zm rfl (zv rfl (zv rfl (zv rfl (zv rfl (zv rfl (zv rfl (zv rfl (zt rfl rfl (zP rfl (zf rfl ?_)))))))))))))))));refine WL.bJ rfl rfl rfl x oS rfl λH r h=>?_
  simp only[List.set_cons_succ,List.set_cons_zero] at r;have hT:=hT.set x r h;have d:=d.gZ h oT;have k:=k.gZ h oT;have n:=n.q8 x h (by intro v D;simp only[List.mem_cons,List.not_mem_nil,or_false] at D;rcases D with rfl|rfl<;>rfl);have j:=j.step h (λy t=>.inl t);refine WL.nil (U _ _ _ (A ?_));refine Sr λ_ c4=>zg k rfl ?_;refine zss rfl rfl ao d rfl λH l h=>?_;(try simp only[qt] at l);have j:=j.s1 h;have hT:=hT.q8 d h an;have n:=n.q8 d h an;have d:=l;refine zz (c4 ?_);refine zr (k8.qJ rfl (aX.cell rfl (BK.fX d rfl oS)) ?_);rw[hD];refine ⟨_,rfl,n,?_,j⟩;refine Eq.mp (congrArg (TpM lo _ z s q) ?_) hT;dsimp only
  first|(simp_all;done)|(refine (decide_eq_true ?_).symm;simp_all;done)|(refine decide_eq_decide.2 ?_;simp_all;done)|(refine decide_eq_decide.2 ?_;simp_all;omega)|(refine (decide_eq_true (.inr (.inl ?_))).symm;omega)|(refine (decide_eq_true (.inr (.inl ?_))).symm;simp_all;omega)
 refine zw rfl (zf rfl (zw rfl (zl k rfl rfl (zw rfl ?_))));refine WL.ev (Ev.ixR (0) rfl rfl a3 oO oO oT) rfl ?_;refine zw rfl ?_;refine WL.ev (Ev.load rfl rfl (a3.u32 oF)) rfl ?_;refine zw rfl ?_;refine WL.ev (Ev.dfx (b:=2) rfl rfl oO) rfl ?_;refine zw rfl (zq rfl rfl (ze rfl rfl (zm rfl ?_)));refine zb ?_ ?_<;>intro h8<;>try simp only[qs] at h8
 ·refine zv rfl (zv rfl (zv rfl (zv rfl (zv rfl (zv rfl (zv rfl (zt rfl rfl (zP rfl (zf rfl ?_)))))))));refine WL.bJ rfl rfl rfl x oS rfl λH r h=>?_
  simp only[List.set_cons_succ,List.set_cons_zero] at r;have hT:=hT.set x r h;have d:=d.gZ h oT;have k:=k.gZ h oT;have n:=n.q8 x h (by intro v D;simp only[List.mem_cons,List.not_mem_nil,or_false] at D;rcases D with rfl|rfl<;>rfl);have j:=j.step h (λy t=>.inl t);refine WL.nil (U _ _ _ (A ?_));refine Sr λ_ c3=>zg k rfl ?_;refine zss rfl rfl ao d rfl λi7 l M=>?_;(try simp only[qt] at l);have j:=j.s1 M;have hT:=hT.q8 d M an;have n:=n.q8 d M an;have d:=l;refine zz (c3 ?_);refine zr (k8.qJ rfl (aX.cell rfl (BK.fX d rfl oS)) ?_);rw[hD];refine ⟨_,rfl,n,?_,j⟩;refine Eq.mp (congrArg (TpM lo _ z s q) ?_) hT;dsimp only
  first|(simp_all;done)|(refine (decide_eq_true ?_).symm;simp_all;done)|(refine decide_eq_decide.2 ?_;simp_all;done)|(refine decide_eq_decide.2 ?_;simp_all;omega)|(refine (decide_eq_true (.inr (.inl ?_))).symm;omega)|(refine (decide_eq_true (.inr (.inl ?_))).symm;simp_all;omega)
 refine zw rfl (zf rfl (zw rfl (zl k rfl rfl (zw rfl (zm rfl (zw rfl ?_))))))
 first|refine WL.ev (Ev.dX rfl rfl oO) rfl ?_|refine WL.ev (Ev.sub rfl rfl) rfl ?_
 refine zw rfl ?_;refine WL.ev (Ev.ixR ((C-1)) rfl rfl a3 oO oO oT) rfl ?_;refine zw rfl ?_;refine WL.ev (Ev.load rfl rfl (a3.u32 oF)) rfl ?_;refine zw rfl (zq rfl rfl (ze rfl rfl (zP rfl (zf rfl ?_))));refine WL.bJ rfl rfl rfl x oS rfl λH r h=>?_;simp only[List.set_cons_succ,List.set_cons_zero] at r;have hT:=hT.set x r h;have d:=d.gZ h oT;have k:=k.gZ h oT;have n:=n.q8 x h (by intro v D;simp only[List.mem_cons,List.not_mem_nil,or_false] at D;rcases D with rfl|rfl<;>rfl);have j:=j.step h (λy t=>.inl t);refine WL.nil (U _ _ _ (A ?_));refine Sr λ_ c2=>zg k rfl ?_;refine zss rfl rfl ao d rfl λi6 l J=>?_;(try simp only[qt] at l);have j:=j.s1 J;have hT:=hT.q8 d J an;have n:=n.q8 d J an;have d:=l;refine zz (c2 ?_);refine zr (k8.qJ rfl (aX.cell rfl (BK.fX d rfl oS)) ?_);rw[hD];refine ⟨_,rfl,n,?_,j⟩;refine Eq.mp (congrArg (TpM lo _ z s q) ?_) hT;dsimp only
 first|(simp_all;done)|(refine (decide_eq_true ?_).symm;simp_all;done)|(refine decide_eq_decide.2 ?_;simp_all;done)|(refine decide_eq_decide.2 ?_;simp_all;omega)|(refine (decide_eq_true (.inr (.inl ?_))).symm;omega)|(refine (decide_eq_true (.inr (.inl ?_))).symm;simp_all;omega)
end
section
open Go Sx Wd
set_option exponentiation.threshold 9000
def ngB(x:Nat):Nat:=if x<9223372036854775808 then x+9223372036854775808 else x-9223372036854775808
theorem negFloat_eq{x:Nat}(h:x<18446744073709551616):Op.negFloat .f64 x=ngB x:=by
  unfold ngB
  by_cases q:x<9223372036854775808
  · rw[if_pos q];exact negF q
  · rw[if_neg q]
    have e:=negF (x:=x-9223372036854775808) oO
    rw[show x-9223372036854775808+9223372036854775808=x by omega] at e
    have a:(x-9223372036854775808) ^^^ 2^63=x:=e
    show x ^^^ 2^63=_
    calc x ^^^ 2^63=((x-9223372036854775808) ^^^ 2^63) ^^^ 2^63:=by rw[a]
      _=x-9223372036854775808:=by rw[Nat.xor_assoc,Nat.xor_self,Nat.xor_zero]
end
section
open Go Sx Wd Fl
def kJ(x:Nat)(s:Int):Prop:=if s=0 then x%9223372036854775808=9218868437227405312 else if s<0 then x=18442240474082181120 else x=9218868437227405312
instance (x:Nat)(s:Int):Decidable (kJ x s):=by unfold kJ;exact inferInstance
theorem read_max:Ieee.double.read 9218868437227405311 = .number false 9007199254740991 971:=by decide +kernel
theorem ctq{x:Nat}(b:x<18446744073709551616):(FloatKind.f64.format.order x 9218868437227405311==some .gt)=decide (x=9218868437227405312):=by
  by_cases h:(j0 x).cls<=2
  · have d:=fin_mod h
    have a : ¬x=9218868437227405312:=by omega
    rw[order_fin h (by decide +kernel),fcmp_gt,decide_eq_false a]
    refine decide_eq_false ?_
    rw[fv_pos (r:=9218868437227405311) oD,fvI_nz h b]
    have c:=Nat.mul_le_mul_right (2^1074) (nz_le (show x%9223372036854775808<=9218868437227405311 by omega))
    split<;>omega
  · have d : ¬x%9223372036854775808<9218868437227405312:=λz=>h ((coq x).2 z)
    show ((Ieee.double.read x).order (Ieee.double.read 9218868437227405311)==some .gt)=_
    rw[read_max]
    unfold Ieee.Format.read
    simp only[bgx,bsq,bsj]
    split
    · omega
    · split
      · simp only[Ieee.Datum.order]
        by_cases hs:x<9223372036854775808
        · have e:(x/9223372036854775808%2==1)=false:=by simp;omega
          rw[e,decide_eq_true oO];rfl
        · have e:(x/9223372036854775808%2==1)=true:=by simp;omega
          rw[e,decide_eq_false oO];rfl
      · rw[decide_eq_false oO];rfl
theorem and_abs(x:Nat):x&&& (2^IntKind.u64.bits-1-9223372036854775808)=x%9223372036854775808:=Nat.and_two_pow_sub_one_eq_mod x 63
theorem ngB_lt2{x:Nat}(h:x<18446744073709551616):ngB x<18446744073709551616:=by unfold ngB;split<;>omega
theorem fAbs_spec(x:Nat)(w:World)(e:x<18446744073709551616):Ret Tryz.prog 254 [.float .f64 x] w λu w'=>u = .float .f64 (x%9223372036854775808)/\w=w':=by
 refine zE1 Tryz.func254 rfl ?_;refine Sr λ_ d=>za rfl (zz (d (Sr λ_ c=>zm rfl ?_)));refine WL.ev (Ev.ext rfl (ext48 _ _)) rfl ?_;refine WL.ev (Ev.andNotU (a:=x) (b:=9223372036854775808) rfl rfl rfl (by simp only[IntKind.bits];omega) oD) rfl ?_;rw[and_abs];refine WL.ev (Ev.ext rfl (ext82 _ _)) rfl ?_;refine za rfl (zz (c ?_));refine zr (zr1 rfl rfl ?_);exact ⟨congrArg (Value.float .f64) (by first|rfl|omega),rfl⟩
theorem fSign_spec(x:Nat)(w:World)(c:x<18446744073709551616):Ret Tryz.prog 222 [.float .f64 x] w λu w'=>u = .bool (decide (9223372036854775808<=x))/\w=w':=by
 refine zE1 Tryz.func222 rfl ?_;refine Sr λ_ b=>za rfl (zz (b (Sr λ_ a=>zm rfl ?_)));refine WL.ev (Ev.ext rfl (ext48 _ _)) rfl ?_;refine WL.ev (Ev.conv rfl rfl) rfl ?_;rw[wrap_i64m];refine zL rfl rfl (za rfl (zz (a ?_)));refine zr (zr1 rfl rfl ?_);exact ⟨congrArg Value.bool (decide_eq_decide.2 oO),rfl⟩
theorem cvj(x:Nat)(s:Int)(w:World)(g:x<18446744073709551616)(q:s = -1\/s=0\/s=1):Ret Tryz.prog 221 [.float .f64 x,.int .i64 s] w λu w'=>u = .bool (decide (kJ x s))/\w=w':=by
 refine zE2 Tryz.func221 rfl ?_;refine Sr λ_ m=>za rfl (zz (m (zc λ_ a=>Sr λ_ l=>zm rfl (zq rfl rfl (zz (l ?_))))));refine zy rfl ?_ ?_<;>intro c<;>try simp only[qs] at c
 ·have h:s=0:=c
  refine zR λ_ i=>?_;refine zm rfl ?_;refine WL.call hasF254 rfl rfl (fAbs_spec x _ g) λv p o=>?_;obtain ⟨rfl,rfl⟩:=o;refine za rfl ?_;refine WL.nil (i _ _ _ (a ?_));refine Sr λ_ k=>zm rfl ?_;refine WL.ev (Ev.fgtr rfl rfl) rfl ?_;refine za rfl (zz (k ?_));refine zr (zr1 rfl rfl ?_);refine ⟨congrArg Value.bool ((ctq oO).trans (decide_eq_decide.2 ?_)),rfl⟩;unfold kJ;rw[if_pos h]
 have h : ¬s=0:=c;refine Sr λ_ j=>zm rfl (zL rfl rfl (zz (j ?_)));refine zy rfl ?_ ?_<;>intro b<;>try simp only[qs] at b
 ·have n:s<0:=b
  refine zR λ_ d=>?_;refine zm rfl ?_;refine WL.ev (Ev.fneg rfl) rfl ?_;rw[negFloat_eq g];refine za rfl ?_;refine WL.nil (d _ _ _ (a ?_));refine Sr λ_ f=>zm rfl ?_;refine WL.ev (Ev.fgtr rfl rfl) rfl ?_;refine za rfl (zz (f ?_));refine zr (zr1 rfl rfl ?_);refine ⟨congrArg Value.bool ((ctq (ngB_lt2 g)).trans (decide_eq_decide.2 ?_)),rfl⟩;unfold kJ ngB;rw[if_neg h,if_pos n];split<;>omega
 have n : ¬s<0:=by have:=b;omega
 refine zkk (a (Sr λ_ e=>zm rfl ?_));refine WL.ev (Ev.fgtr rfl rfl) rfl ?_;refine za rfl (zz (e ?_));refine zr (zr1 rfl rfl ?_);refine ⟨congrArg Value.bool ((ctq g).trans (decide_eq_decide.2 ?_)),rfl⟩;unfold kJ;rw[if_neg h,if_neg n]
def apj(x:Nat)(side:Int)(there beyond noughts:Nat)(S:Sh):Prop:=
  if 0<there then kJ x side else if S.fin=0 then 0<beyond/\kJ x (-side) else if kJ x 0 then False else if 0<S.pln then True else x%9223372036854775808=0/\(9223372036854775808<=x↔(side<0↔0<noughts))
instance (x:Nat)(side:Int)(a b c:Nat)(S:Sh):Decidable (apj x side a b c S):=by unfold apj;exact inferInstance
def vQ(S:Sh):Prop:=¬(isNaN S.lo=true\/isNaN S.hi=true\/key S.hi<key S.lo)/\apj S.lo (-1) S.s.dn S.s.up S.s.mi S/\apj S.hi 1 S.s.up S.s.dn S.s.pl S
instance (S:Sh):Decidable (vQ S):=by unfold vQ;exact inferInstance
theorem LASTEQ{a b c d:Prop}{x:Nat}[Decidable a][Decidable b][Decidable c][Decidable d](e:c↔d)(h:x%9223372036854775808=0):(decide a==(decide b==decide c))=decide (x%9223372036854775808=0/\(a↔(b↔d))):=by
  rw[Bool.eq_iff_iff]
  by_cases ha:a<;>by_cases hb:b<;>by_cases hd:d<;>simp[ha,hb,hd,e,h]
theorem BEYT{a c:Prop}[Decidable a][Decidable c](h:a):decide c=decide (a/\c):=by simp[h]
theorem BEYF{a c:Prop}[Decidable a][Decidable c](h : ¬a):false=decide (a/\c):=by simp[h]
theorem c7x{a b:Prop}[Decidable a][Decidable b]:(decide a==decide b)=decide (a↔b):=by
  by_cases ha:a<;>by_cases hb:b<;>simp[ha,hb]
theorem dbx(b x f c a:Nat)(d:Int)(S:Sh)(w:World)(X:ShM 91 w b S)(C:S.s.le 1099511627776)(F:x<18446744073709551616)(V:d = -1\/d=1):Ret Tryz.prog 152 [.float .f64 x,.int .i64 d,.int .i64 (f:Int),.int .i64 (c:Int),.int .i64 (a:Int),.pointer (some ⟨b,0,none⟩)] w λu w'=>u = .bool (decide (apj x d f c a S))/\Chg [] w w':=by
 have i:=X;have g:=crf w;refine Ret.enter Tryz.func152 rfl rfl ?_;simp only[b1x,Nat.zero_add,Nat.reduceAdd];refine Sr λ_ Q=>za rfl (zz (Q (zc λ_ O=>CW.block (Sr λ_ M=>zm rfl (zG rfl rfl (za rfl (zz (M ?_))))))));refine zy rfl ?_ ?_<;>intro p<;>try simp only[qs] at p
 ·have l:0<f:=by have:=p;omega
  refine Sr λ_ J=>zm rfl (zm rfl ?_);refine WL.call hasF221 rfl rfl (cvj x d _ F oO) λv w1 h=>?_;obtain ⟨rfl,rfl⟩:=h;refine za rfl (zz (J ?_));refine zr (zr1 rfl rfl ?_);refine ⟨congrArg Value.bool (decide_eq_decide.2 ?_),g⟩
  show _↔apj x d f c a S
  unfold apj;rw[if_pos l]
 have l : ¬0<f:=by have:=p;omega
 refine Sr λ_ I=>zm rfl ?_;refine WL.call hasF78 rfl rfl (ajq b S _ i C) λv w2 h=>?_;obtain ⟨rfl,G⟩:=h;have g:=g.ta G;have i:=i.q5 G;refine zq rfl rfl (za rfl (zz (I ?_)));refine zy rfl ?_ ?_<;>intro o<;>try simp only[qs] at o
 ·have q:S.fin=0:=o
  refine Sr λ_ k=>zm rfl (zG rfl rfl (zm rfl ?_));refine zb ?_ ?_<;>intro U<;>try simp only[qs] at U
  ·refine zw rfl (zm rfl (zw rfl (zm rfl (zw rfl ?_))));refine WL.ev (Ev.bnq rfl oO) rfl ?_
   refine zw rfl ?_;refine WL.call hasF221 rfl rfl (cvj x (-d) _ F oO) λv w3 h=>?_;obtain ⟨rfl,rfl⟩:=h;refine zt rfl rfl (za rfl (zz (k ?_)));refine zr (zr1 rfl rfl ?_);refine ⟨congrArg Value.bool ?_,g⟩;have e:(apj x d f c a S)↔(0<c/\kJ x (-d)):=by unfold apj;rw[if_neg l,if_pos q]
   rw[decide_eq_decide.2 e]
   first|exact BEYT oO|exact BEYF oO
  refine zv rfl (zv rfl (zv rfl (zv rfl (ze rfl rfl (za rfl (zz (k ?_)))))));refine zr (zr1 rfl rfl ?_);refine ⟨congrArg Value.bool ?_,g⟩;have e:(apj x d f c a S)↔(0<c/\kJ x (-d)):=by unfold apj;rw[if_neg l,if_pos q]
  rw[decide_eq_decide.2 e]
  first|exact BEYT oO|exact BEYF oO
 have q : ¬S.fin=0:=o;refine Sr λ_ B=>zm rfl ?_;refine WL.call hasF221 rfl rfl (cvj x 0 _ F oO) λv w4 h=>?_;obtain ⟨rfl,rfl⟩:=h;refine za rfl (zz (B ?_));refine zy rfl ?_ ?_<;>intro n<;>try simp only[qs] at n
 ·have D:kJ x 0:=by simpa using n
  refine Sr λ_ A=>za rfl (zz (A ?_));refine zr (zr1 rfl rfl ?_);refine ⟨congrArg Value.bool (decide_eq_false ?_).symm,g⟩;unfold apj;rw[if_neg l,if_neg q,if_pos D];exact λz=>z
 have D : ¬kJ x 0:=by simpa using n
 refine Sr λ_ y=>zm rfl ?_;refine WL.call hasF149 rfl rfl (dkq b S _ i C) λv Z h=>?_;obtain ⟨rfl,G⟩:=h;have g:=g.ta G;refine zG rfl rfl (za rfl (zz (y ?_)));refine zy rfl ?_ ?_<;>intro m<;>try simp only[qs] at m
 ·have H:0<S.pln:=by have:=m;omega
  refine Sr λ_ t=>za rfl (zz (t ?_));refine zr (zr1 rfl rfl ?_);refine ⟨congrArg Value.bool (decide_eq_true ?_).symm,g⟩;unfold apj;rw[if_neg l,if_neg q,if_neg D,if_pos H]
  trivial
 have H : ¬0<S.pln:=by have:=m;omega
 refine zkk (O (Sr λ_ r=>zm rfl (zL rfl rfl (zm rfl (zG rfl rfl ?_)))));refine WL.ev (Ev.bbq rfl rfl) rfl ?_;refine za rfl (zz (r (Sr λ_ j=>zm rfl ?_)));refine WL.ev (Ev.feql rfl rfl) rfl ?_;rw[order_zero];refine zm rfl ?_;refine zb ?_ ?_<;>intro T<;>try simp only[qs] at T
 ·refine zw rfl (zm rfl (zw rfl ?_));refine WL.call hasF222 rfl rfl (fSign_spec x _ F) λv Y h=>?_
  obtain ⟨rfl,rfl⟩:=h;refine zw rfl (zm rfl (zw rfl ?_));refine WL.ev (Ev.bbq rfl rfl) rfl ?_;refine zt rfl rfl (za rfl (zz (j ?_)));refine zr (zr1 rfl rfl ?_);refine ⟨congrArg Value.bool ?_,g⟩;have e:(apj x d f c a S)↔(x%9223372036854775808=0/\(9223372036854775808<=x↔(d<0↔0<a))):=by unfold apj;rw[if_neg l,if_neg q,if_neg D,if_neg H]
  rw[decide_eq_decide.2 e];have R:(0<(a:Int))↔0<a:=by omega
  first|(exact LASTEQ R oA)  | (rw[c7x,c7x];refine decide_eq_decide.2 ?_;constructor<;>intro z<;>simp_all<;>omega)|(symm;refine decide_eq_false ?_;simp_all;done)
 refine zv rfl (zv rfl (zv rfl (zv rfl (ze rfl rfl (za rfl (zz (j ?_)))))));refine zr (zr1 rfl rfl ?_);refine ⟨congrArg Value.bool ?_,g⟩;have e:(apj x d f c a S)↔(x%9223372036854775808=0/\(9223372036854775808<=x↔(d<0↔0<a))):=by unfold apj;rw[if_neg l,if_neg q,if_neg D,if_neg H]
 rw[decide_eq_decide.2 e];have R:(0<(a:Int))↔0<a:=by omega
 first|(exact LASTEQ R oA)  | (rw[c7x,c7x];refine decide_eq_decide.2 ?_;constructor<;>intro z<;>simp_all<;>omega)|(symm;refine decide_eq_false ?_;simp_all;done)
theorem ends_spec21(b:Nat)(S:Sh)(w:World)(a:ShM 91 w b S)(I:S.s.le 1099511627776)(B:S.lo<18446744073709551616)(C:S.hi<18446744073709551616):Ret Tryz.prog 85 [.pointer (some ⟨b,0,none⟩)] w λu w'=>u = .bool (decide (vQ S))/\Chg [] w w':=by
 obtain ⟨J,M,j,g,h⟩:=a;obtain ⟨A,y,x,t,r,q⟩:=I;have e:=crf w;refine zE1 Tryz.func85 rfl ?_;refine Sr λ_ G=>za rfl (zz (G (zc λ_ F=>?_)));refine CW.axj 26 (decide (isNaN S.lo=true\/isNaN S.hi=true\/key S.hi<key S.lo)) ?_ ?_
 ·intro f;refine CW.bZ 24 rfl cJ λQ m a i=>?_;have f:=f.ta i;have j:=j.q5 i;have d:=j;refine wh 0 rfl a (eM rfl) (wh 1 rfl a (eP rfl) (wh 2 rfl a (eF rfl) (wh 3 rfl a (λ_ c=>Ev.load rfl rfl ((d.q5 c).at_ rfl)) ?_)));refine WH.k6 4 rfl oR hasF151 rfl rfl (bux S.lo _) λv Y k=>?_;obtain ⟨rfl,rfl⟩:=k;refine ⟨a,?_⟩;cases hq7:isNaN S.lo
  ·refine wh 5 rfl a (eM rfl) (wg 6 rfl rfl rfl rfl rfl a (eM rfl) (wg 7 rfl rfl rfl rfl rfl a (eP rfl) (wg 8 rfl rfl rfl rfl rfl a (eF rfl) (wg 9 rfl rfl rfl rfl rfl a (λ_ c=>Ev.load rfl rfl ((d.q5 c).at_ rfl)) ?_))));refine WH.rX 10 rfl oR rfl rfl rfl rfl hasF151 rfl rfl (bux S.hi _) λv X k=>?_;obtain ⟨rfl,rfl⟩:=k;refine ⟨a,?_⟩;cases hq13:isNaN S.hi
   ·refine wh 11 rfl a (λ_ _=>Ev.anq rfl rfl rfl) (wh 12 rfl a (eM rfl) (wg 13 rfl rfl rfl rfl rfl a (eM rfl) (wg 14 rfl rfl rfl rfl rfl a (eP rfl) (wg 15 rfl rfl rfl rfl rfl a (eF rfl) (wg 16 rfl rfl rfl rfl rfl a (λ_ c=>Ev.load rfl rfl ((d.q5 c).at_ rfl)) (wg 17 rfl rfl rfl rfl rfl a (eM rfl) (wg 18 rfl rfl rfl rfl rfl a (eP rfl) (wg 19 rfl rfl rfl rfl rfl a (eF rfl) (wg 20 rfl rfl rfl rfl rfl a (λ_ c=>Ev.load rfl rfl ((d.q5 c).at_ rfl)) ?_)))))))));refine WH.rX 21 rfl oR rfl rfl rfl rfl hasF97 rfl rfl (afj S.lo S.hi B C _) λv V k=>?_;obtain ⟨rfl,rfl⟩:=k;refine ⟨a,?_⟩;refine wg 22 rfl rfl rfl rfl rfl a (λ_ _=>Ev.gtr rfl rfl) (wh 23 rfl a (λ_ _=>Ev.anq rfl rfl rfl) ?_);refine WH.done oR (m _ _ _ ?_);refine ⟨rfl,f,q9.g7 rfl ?_ ?_⟩
    ·first|(simp_all;done)|(refine decide_eq_decide.2 ?_;simp_all [afx];done)
    exact SMg
   refine wh 11 rfl a (λ_ _=>Ev.anq rfl rfl rfl) (wh 12 rfl a (eM rfl) (wp 13 rfl rfl rfl rfl rfl a (wp 14 rfl rfl rfl rfl rfl a (wp 15 rfl rfl rfl rfl rfl a (wp 16 rfl rfl rfl rfl rfl a (wp 17 rfl rfl rfl rfl rfl a (wp 18 rfl rfl rfl rfl rfl a (wp 19 rfl rfl rfl rfl rfl a (wp 20 rfl rfl rfl rfl rfl a ?_)))))))));refine WH.ayj 21 rfl oR rfl rfl rfl rfl a rfl ?_;refine wp 22 rfl rfl rfl rfl rfl a (wh 23 rfl a (λ_ _=>Ev.aex rfl rfl rfl) ?_);refine WH.done oR (m _ _ _ ?_);refine ⟨rfl,f,q9.g7 rfl ?_ ?_⟩
   ·first|(simp_all;done)|(refine decide_eq_decide.2 ?_;simp_all [afx];done)
   exact SMg
  refine wh 5 rfl a (eM rfl) (wp 6 rfl rfl rfl rfl rfl a (wp 7 rfl rfl rfl rfl rfl a (wp 8 rfl rfl rfl rfl rfl a (wp 9 rfl rfl rfl rfl rfl a ?_))));refine WH.ayj 10 rfl oR rfl rfl rfl rfl a rfl ?_;refine wh 11 rfl a (λ_ _=>Ev.aex rfl rfl rfl) (wh 12 rfl a (eM rfl) (wp 13 rfl rfl rfl rfl rfl a (wp 14 rfl rfl rfl rfl rfl a (wp 15 rfl rfl rfl rfl rfl a (wp 16 rfl rfl rfl rfl rfl a (wp 17 rfl rfl rfl rfl rfl a (wp 18 rfl rfl rfl rfl rfl a (wp 19 rfl rfl rfl rfl rfl a (wp 20 rfl rfl rfl rfl rfl a ?_)))))))));refine WH.ayj 21 rfl oR rfl rfl rfl rfl a rfl ?_;refine wp 22 rfl rfl rfl rfl rfl a (wh 23 rfl a (λ_ _=>Ev.aex rfl rfl rfl) ?_);refine WH.done oR (m _ _ _ ?_);refine ⟨rfl,f,q9.g7 rfl ?_ ?_⟩
  ·first|(simp_all;done)|(refine decide_eq_decide.2 ?_;simp_all [afx];done)
  exact SMg
 intro R f;have e:=e.ta f;have j:=j.q5 f;have g:=g.q5 f;have h:=h.q5 f;refine zy rfl ?_ ?_<;>intro n<;>try simp only[qs] at n
 ·have H:isNaN S.lo=true\/isNaN S.hi=true\/key S.hi<key S.lo:=by simpa using n
  refine Sr λ_ D=>za rfl (zz (D ?_));refine zr (zr1 rfl rfl ?_);refine ⟨congrArg Value.bool (decide_eq_false λz=>z.1 H).symm,e⟩
 have H : ¬(isNaN S.lo=true\/isNaN S.hi=true\/key S.hi<key S.lo):=by simpa using n
 refine zkk (F (zc λ_ p=>?_));refine CW.bZ 45 rfl cJ λO o a i=>?_;have e:=e.ta i;have j:=j.q5 i;have g:=g.q5 i;have h:=h.q5 i;have d:=j;refine wh 0 rfl a (eM rfl) (wh 1 rfl a (eP rfl) (wh 2 rfl a (eF rfl) (wh 3 rfl a (λ_ c=>Ev.load rfl rfl ((d.q5 c).at_ rfl)) (wh 4 rfl a (eM rfl) (wh 5 rfl a (eP rfl) (wh 6 rfl a (eF rfl) (wh 7 rfl a (eF rfl) (wh 8 rfl a (λ_ c=>Ev.load rfl rfl ((d.q5 c).at_ rfl)) (wh 9 rfl a (eM rfl) (wh 10 rfl a (eP rfl) (wh 11 rfl a (eF rfl) (wh 12 rfl a (eF rfl) (wh 13 rfl a (λ_ c=>Ev.load rfl rfl ((d.q5 c).at_ rfl)) (wh 14 rfl a (eM rfl) (wh 15 rfl a (eP rfl) (wh 16 rfl a (eF rfl) (wh 17 rfl a (eF rfl) (wh 18 rfl a (λ_ c=>Ev.load rfl rfl ((d.q5 c).at_ rfl)) (wh 19 rfl a (eM rfl) ?_)))))))))))))))))));refine WH.k6 20 rfl oR hasF152 rfl rfl (dbx b S.lo S.s.dn S.s.up S.s.mi (-1) S _ ⟨J,M,j,g,h⟩ ⟨A,y,x,t,r,q⟩ B oO) λv U k=>?_;obtain ⟨rfl,l⟩:=k;have e:=e.ta l;have j:=j.q5 l;have g:=g.q5 l;have h:=h.q5 l;have a:=a.trans l;refine ⟨a,?_⟩
 by_cases hq47:apj S.lo (-1) S.s.dn S.s.up S.s.mi S
 ·rw[decide_eq_true hq47];refine wh 21 rfl a (eM rfl) (wg 22 rfl rfl rfl rfl rfl a (eM rfl) (wg 23 rfl rfl rfl rfl rfl a (eP rfl) (wg 24 rfl rfl rfl rfl rfl a (eF rfl) (wg 25 rfl rfl rfl rfl rfl a (λ_ c=>Ev.load rfl rfl ((d.q5 c).at_ rfl)) (wg 26 rfl rfl rfl rfl rfl a (eM rfl) (wg 27 rfl rfl rfl rfl rfl a (eP rfl) (wg 28 rfl rfl rfl rfl rfl a (eF rfl) (wg 29 rfl rfl rfl rfl rfl a (eF rfl) (wg 30 rfl rfl rfl rfl rfl a (λ_ c=>Ev.load rfl rfl ((d.q5 c).at_ rfl)) (wg 31 rfl rfl rfl rfl rfl a (eM rfl) (wg 32 rfl rfl rfl rfl rfl a (eP rfl) (wg 33 rfl rfl rfl rfl rfl a (eF rfl) (wg 34 rfl rfl rfl rfl rfl a (eF rfl) (wg 35 rfl rfl rfl rfl rfl a (λ_ c=>Ev.load rfl rfl ((d.q5 c).at_ rfl)) (wg 36 rfl rfl rfl rfl rfl a (eM rfl) (wg 37 rfl rfl rfl rfl rfl a (eP rfl) (wg 38 rfl rfl rfl rfl rfl a (eF rfl) (wg 39 rfl rfl rfl rfl rfl a (eF rfl) (wg 40 rfl rfl rfl rfl rfl a (λ_ c=>Ev.load rfl rfl ((d.q5 c).at_ rfl)) (wg 41 rfl rfl rfl rfl rfl a (eM rfl) ?_))))))))))))))))))));refine WH.rX 42 rfl oR rfl rfl rfl rfl hasF152 rfl rfl (dbx b S.hi S.s.up S.s.dn S.s.pl 1 S _ ⟨J,M,j,g,h⟩ ⟨A,y,x,t,r,q⟩ C oO) λv T k=>?_;obtain ⟨rfl,l⟩:=k;have e:=e.ta l;have a:=a.trans l;refine ⟨a,?_⟩;refine wh 43 rfl a (λ_ _=>Ev.aex rfl rfl rfl) (wh 44 rfl a (eA rfl) ?_);refine WH.done oR (o _ _ _ ?_);refine p ?_;refine zr (zr1 rfl rfl ?_);refine ⟨congrArg Value.bool (decide_eq_decide.2 ⟨λz=>⟨H,hq47,z⟩,λz=>z.2.2⟩),e⟩
 rw[decide_eq_false hq47];refine wh 21 rfl a (eM rfl) (wp 22 rfl rfl rfl rfl rfl a (wp 23 rfl rfl rfl rfl rfl a (wp 24 rfl rfl rfl rfl rfl a (wp 25 rfl rfl rfl rfl rfl a (wp 26 rfl rfl rfl rfl rfl a (wp 27 rfl rfl rfl rfl rfl a (wp 28 rfl rfl rfl rfl rfl a (wp 29 rfl rfl rfl rfl rfl a (wp 30 rfl rfl rfl rfl rfl a (wp 31 rfl rfl rfl rfl rfl a (wp 32 rfl rfl rfl rfl rfl a (wp 33 rfl rfl rfl rfl rfl a (wp 34 rfl rfl rfl rfl rfl a (wp 35 rfl rfl rfl rfl rfl a (wp 36 rfl rfl rfl rfl rfl a (wp 37 rfl rfl rfl rfl rfl a (wp 38 rfl rfl rfl rfl rfl a (wp 39 rfl rfl rfl rfl rfl a (wp 40 rfl rfl rfl rfl rfl a (wp 41 rfl rfl rfl rfl rfl a ?_))))))))))))))))))));refine WH.ayj 42 rfl oR rfl rfl rfl rfl a rfl ?_;refine wh 43 rfl a (λ_ _=>Ev.anq rfl rfl rfl) (wh 44 rfl a (eA rfl) ?_);refine WH.done oR (o _ _ _ ?_);refine p ?_;refine zr (zr1 rfl rfl ?_);refine ⟨congrArg Value.bool (decide_eq_false λz=>hq47 z.2.1).symm,e⟩
def cmpY(x y:Dy):Int:=bpx x.neg x.m x.e y.neg y.m y.e
def axx:Dy:=⟨false,1,2048⟩
theorem topD_wd:wd axx.m=[1]:=by show wd 1=[1];decide +kernel
theorem topD_ok:axx.ok:=⟨λh=>absurd h oD,λ_=>by decide,by rw[topD_wd];decide,by decide⟩
def rJ(S:Sh):Prop:=
  if S.pln=0 then S.V.m=0/\S.Q.m=0 else
    ¬(sgD S.Q.neg S.Q.m<=0\/S.Q.e < -2148\/(S.V.m≠0/\S.V.e < -1074))/\cmpY S.Q ((fJ (cZ S.pln) axx).getD Dy.zero)<0/\cmpY ((fJ S.V S.V).getD Dy.zero) ((fJ (cZ S.pln) S.Q).getD Dy.zero)<=0
instance (S:Sh):Decidable (rJ S):=by unfold rJ;exact inferInstance
theorem aqj{n:Nat}: (wd n).length=0↔n=0:=by
  constructor
  · intro h
    have:=(aQ (n:=n) (k:=0)).1 oO
    simpa using this
  · rintro rfl;rw[eJ];rfl
theorem DR.bjx{w:World}{u:Value}{x:Option Dy}(h:DR w u x): ∃ (r:Value) (k:Int),u = .tuple [.agg [.bool (x.getD Dy.zero).neg,r,.int .i64 (x.getD Dy.zero).e].toArray,.int .i64 k].toArray/\NU w r (wd (x.getD Dy.zero).m):=by
  obtain ⟨r,k,b,a,_⟩:=h.bij
  exact ⟨r,k,b,a⟩
theorem le_mil{d:Dy}(h:d.ok):(wd d.m).length<=1000000:=by have:=h.len;omega
theorem e_mil{d:Dy}(h:d.ok): -1000000000000<=d.e/\d.e<=1000000000000:=by have:=h.e;omega
theorem sums_spec21(b:Nat)(S:Sh)(w:World)(k:ShM 91 w b S)(l0:S.s.le 1099511627776)(U:S.V.ok)(a0:S.Q.ok)(hg:GW w):Ret Tryz.prog 84 [.pointer (some ⟨b,0,none⟩)] w λu w'=>u = .bool (decide (rJ S))/\Chg [] w w':=by
 obtain ⟨rv,rq,q,f,c⟩:=k;obtain ⟨k1,i9,i8,i7,i6,i5⟩:=l0;have a:=crf w;obtain ⟨⟨av,cv,i4,o0,n4⟩,-,n7⟩:=id f;obtain ⟨⟨aq,cq,k2,o2,n5⟩,-,n8⟩:=id c;subst i4 k2;have b6:=hg;have n2:=aqj (n:=S.V.m);have n3:=aqj (n:=S.Q.m);refine zE1 Tryz.func84 rfl ?_;refine Sr λ_ i3=>za rfl (zz (i3 (Sr λ_ i2=>zm rfl ?_)));refine WL.call hasF149 rfl rfl (dkq b S _ ⟨_,_,q,f,c⟩ ⟨k1,i9,i8,i7,i6,i5⟩) λv w1 h'=>?_;obtain ⟨rfl,t⟩:=h';have k3 : -9223372036854775808<=S.pln/\S.pln<=9223372036854775807:=by unfold Sh.pln Sh.fin;omega
 have Z:(cZ S.pln).ok:=wZ (by unfold Sh.pln Sh.fin;omega);have c4:=f.one;have n6:=c.one;have a:=a.ta t;have q:=q.q5 t;have f:=f.q5 t;have c:=c.q5 t;refine za rfl (zz (i2 (zc λ_ i1=>CW.block (Sr λ_ i0=>zm rfl (zq rfl rfl (za rfl (zz (i0 ?_))))))));refine zy rfl ?_ ?_<;>intro e1<;>try simp only[qs] at e1
 ·have h0:S.pln=0:=e1
  refine zc λ_ h9=>?_;refine CW.jQ cJ oR λn1 h8 y=>?_;have a:=a.ta y;have q:=q.q5 y;refine ym rfl (yP rfl (yf rfl (yf rfl ?_)));refine WS.ev (Ev.load (v:=.slice av (wd S.V.m).length cv) rfl rfl (q.at_ rfl)) rfl ?_;refine yn rfl (ym rfl (yP rfl (yf rfl (yf rfl ?_))));refine WS.ev (Ev.load (v:=.slice aq (wd S.Q.m).length cq) rfl rfl (q.at_ rfl)) rfl ?_;refine yn rfl ?_
  first|refine WS.ev (Ev.jZ rfl rfl oO) rfl ?_|refine WS.ev (Ev.add rfl rfl) rfl ?_
  refine WS.ev (Ev.eql rfl rfl) rfl ?_;refine ya rfl ?_;refine WS.nil (h8 _ _ ?_);refine h9 ?_;refine zr (zr1 rfl rfl ?_);refine ⟨congrArg Value.bool (decide_eq_decide.2 ?_),a⟩;unfold rJ;rw[if_pos h0];omega
 have h0 : ¬S.pln=0:=e1;refine CW.axj 30 (decide (sgD S.Q.neg S.Q.m<=0\/S.Q.e < -2148\/(S.V.m≠0/\S.V.e < -1074))) ?_ ?_
 ·intro Y;refine zS λ_ b2=>zm rfl (zP rfl (zf rfl ?_));refine WL.ev (Ev.fQ rfl rfl q rfl rfl) rfl ?_
  try simp only[oL]
  refine WL.call hasF74 rfl rfl (ajj _ _ _ _ _ c) λv w2 h'=>?_;obtain ⟨rfl,t⟩:=h';rw[g6];have Y:=Y.ta t;have q:=q.q5 t;refine zQ rfl rfl (zm rfl ?_);refine zb ?_ ?_<;>intro l3<;>try simp only[qs] at l3
  ·refine zv rfl (zv rfl (zv rfl (zv rfl (zv rfl (zv rfl (zt rfl rfl (zm rfl (zv rfl (zv rfl (zv rfl (zv rfl (zv rfl (zv rfl (zv rfl (zv rfl (zu rfl (zu rfl (zu rfl (zu rfl (zu rfl (zu rfl (zv rfl (zt rfl rfl ?_)))))))))))))))))))))));refine za rfl (zz (b2 ?_));refine ⟨rfl,Y,q9.g7 rfl ?_ ?_⟩
   ·exact AqE
   exact SMg
  refine zw rfl (zm rfl (zw rfl (zP rfl (zw rfl (zf rfl (zw rfl (zf rfl (zw rfl (zl q rfl rfl (zw rfl (zL rfl rfl (ze rfl rfl (zm rfl ?_)))))))))))));refine zb ?_ ?_<;>intro l2<;>try simp only[qs] at l2
  ·refine zv rfl (zv rfl (zv rfl (zv rfl (zv rfl (zv rfl (zv rfl (zv rfl (zu rfl (zu rfl (zu rfl (zu rfl (zu rfl (zu rfl (zv rfl (zt rfl rfl (za rfl (zz (b2 ?_))))))))))))))))));refine ⟨rfl,Y,q9.g7 rfl ?_ ?_⟩
   ·exact AqE
   exact SMg
  refine zw rfl (zm rfl (zw rfl (zP rfl (zw rfl (zf rfl (zw rfl (zf rfl (zw rfl ?_))))))));refine WL.ev (Ev.load (v:=.slice av (wd S.V.m).length cv) rfl rfl (q.at_ rfl)) rfl ?_;refine zw rfl (zn rfl (zw rfl (zG rfl rfl (zw rfl (zm rfl ?_)))));refine zb ?_ ?_<;>intro l1<;>try simp only[qs] at l1
  ·refine zw rfl (zm rfl (zw rfl (zP rfl (zw rfl (zf rfl (zw rfl (zf rfl (zw rfl (zl q rfl rfl (zw rfl (zL rfl rfl (zw rfl (zt rfl rfl (ze rfl rfl (za rfl (zz (b2 ?_)))))))))))))))));refine ⟨rfl,Y,q9.g7 rfl ?_ ?_⟩
   ·exact AqE
   exact SMg
  refine zv rfl (zv rfl (zv rfl (zv rfl (zv rfl (zv rfl (zw rfl (ze rfl rfl (ze rfl rfl (za rfl (zz (b2 ?_)))))))))));refine ⟨rfl,Y,q9.g7 rfl ?_ ?_⟩
  ·exact AqE
  exact SMg
 intro wM Y;have a:=a.ta Y;have q:=q.q5 Y;have f:=f.q5 Y;have c:=c.q5 Y;refine zy rfl ?_ ?_<;>intro e0<;>try simp only[qs] at e0
 ·have h1:sgD S.Q.neg S.Q.m<=0\/S.Q.e < -2148\/(S.V.m≠0/\S.V.e < -1074):=by simpa using e0
  refine Sr λ_ f2=>za rfl (zz (f2 ?_));refine zr (zr1 rfl rfl ?_);refine ⟨congrArg Value.bool (decide_eq_false λz=>?_).symm,a⟩;unfold rJ at z;rw[if_neg h0] at z;exact z.1 h1
 have h1 : ¬(sgD S.Q.neg S.Q.m<=0\/S.Q.e < -2148\/(S.V.m≠0/\S.V.e < -1074)):=by simpa using e0
 refine zkk (i1 (Sr λ_ f1=>zm rfl ?_));refine WL.call hasF144 rfl rfl (bcx S.pln _ (b6.q5 a) k3) λv w3 h'=>?_;obtain ⟨⟨ri,rfl,i⟩,t⟩:=h';have f4:=i.one;have a:=a.ta t;have q:=q.q5 t;have f:=f.q5 t;have c:=c.q5 t;refine zAh rfl rfl a λb4 m6 g b3 m4 f8 a=>?_;have f:=f.q5 b3;have c:=c.q5 b3;have i:=i.q5 b3;have k5:b≠b4:=by have:=q.lt;omega
 have q:=q.q5 b3;refine zss rfl rfl ao g rfl λm0 d6 X=>?_;(try simp only[qt] at d6);have a:=a.s1 X;have q:=q.kq X;have f:=f.q8 g X an;have c:=c.q8 g X an;have i:=i.q8 g X an;have g:=d6;refine zz (f1 (Sr λ_ f0=>zg g rfl ?_));refine WL.buildSlice (m:=1) (cs:=[kQ (1)]) oD oD rfl oR rfl λe6 h7 c0=>?_;have T:=c0.chg;have c3:=c0.ge;have g0:OB h7 e6 _ [1]:=c0.at_;have e7:=Nat.le_trans a.size c3;have a:=a.ta T;have f:=f.q5 T;have c:=c.q5 T;have i:=i.q5 T;have h3:b≠e6:=by have:=q.lt;omega
 have q:=q.q5 T;have f6:=zdd g.lt c3;have g:=g.k0 T;refine WL.ev (Ev.build (vs:=_) (cs:=[_,_,_]) rfl rfl) rfl ?_;refine WL.call hasF71 rfl rfl (uQ _ _ _ _ _ _ _ _ _ i (show NU _ (.slice (some ⟨e6,0,none⟩) 1 1) (wd axx.m) from by rw[topD_wd];exact NU.mJ g0 (yX.2 ⟨by decide,awj⟩) oD rfl (Nat.le_refl _)) (b6.q5 a) (aJ Z) (aJ topD_ok)) λv w4 h'=>?_;obtain ⟨hD,t⟩:=h'
 change DR _ _ (bgj fJ (cQ (cZ S.pln).neg (val (wd (cZ S.pln).m)) (cZ S.pln).e) (cQ axx.neg (val (wd axx.m)) axx.e)) at hD
 rw[jX Z topD_ok] at hD;obtain ⟨rt,kt,rfl,o⟩:=hD.bjx;have f3:=o.one;have a:=a.ta t;have q:=q.q5 t;have g:=g.k0 t;have f:=f.q5 t;have c:=c.q5 t;have i:=i.q5 t;refine zm rfl (zx rfl rfl (zx rfl rfl ?_));refine zAh rfl rfl a λb5 m5 j a1 f9 f7 a=>?_;have f:=f.q5 a1;have c:=c.q5 a1;have i:=i.q5 a1;have o:=o.q5 a1;have k4:b≠b5:=by have:=q.lt;omega
 have q:=q.q5 a1;have h4:=zdd g.lt f9;have g:=g.k0 a1;refine zss rfl rfl ao j rfl λl9 d5 O=>?_;(try simp only[qt] at d5);have a:=a.s1 O;have q:=q.kq O;have g:=g.kq O;have f:=f.q8 j O an;have c:=c.q8 j O an;have i:=i.q8 j O an;have o:=o.q8 j O an;have j:=d5;refine za rfl (zz (f0 ?_));refine CW.anx (λD s' w'=>D=[]/\∃ (b7:Nat) (rv:Value),BK w' b 91 [.int .i64 (S.s.na:Int),.int .i64 (S.s.up:Int),.int .i64 (S.s.dn:Int),.int .i64 (S.s.mi:Int),.int .i64 (S.s.pl:Int),.int .i64 (S.s.al:Int),.bool S.V.neg,.slice av (wd S.V.m).length cv,.int .i64 S.V.e,.bool S.Q.neg,.slice aq (wd S.Q.m).length cq,.int .i64 S.Q.e,.float .f64 S.lo,.float .f64 S.hi]/\NU w' (.slice av (wd S.V.m).length cv) (wd S.V.m)/\NU w' (.slice aq (wd S.Q.m).length cq) (wd S.Q.m)/\BK w' b4 89 [.bool (cZ S.pln).neg,ri,.int .i64 (cZ S.pln).e]/\NU w' ri (wd (cZ S.pln).m)/\BK w' b5 89 [.bool ((fJ (cZ S.pln) axx).getD Dy.zero).neg,rt,.int .i64 ((fJ (cZ S.pln) axx).getD Dy.zero).e]/\NU w' rt (wd ((fJ (cZ S.pln) axx).getD Dy.zero).m)/\BK w' b7 89 [.bool ((fJ S.V S.V).getD Dy.zero).neg,rv,.int .i64 ((fJ S.V S.V).getD Dy.zero).e]/\NU w' rv (wd ((fJ S.V S.V).getD Dy.zero).m)/\Chg [] w w'/\q9 [(0,.pointer (some ⟨b,0,none⟩)),(4,.pointer (some ⟨b4,0,none⟩)),(5,.pointer (some ⟨b5,0,none⟩)),(7,.pointer (some ⟨b7,0,none⟩))] s') ?_ ?_
 ·refine CW.bZ 15 rfl cJ λm3 d3 k y=>?_;have a:=a.ta y;have q:=q.q5 y;have g:=g.k0 y;have j:=j.k0 y;have f:=f.q5 y;have c:=c.q5 y;have i:=i.q5 y;have o:=o.q5 y;have a2:=q;refine wh 0 rfl k (eM rfl) (wh 1 rfl k (eP rfl) (wh 2 rfl k (eF rfl) (wh 3 rfl k (λ_ M=>Ev.fQ rfl rfl (a2.q5 M) rfl rfl) ?_)))
  try simp only[oL]
  refine wh 4 rfl k (eM rfl) (wh 5 rfl k (eP rfl) (wh 6 rfl k (eF rfl) (wh 7 rfl k (λ_ M=>Ev.fQ rfl rfl (a2.q5 M) rfl rfl) ?_)))
  try simp only[oL]
  refine WH.c2j 8 12 oR ?_ ?_
  ·refine ahj.call 8 rfl hasF71 rfl rfl (uQ _ _ _ _ _ _ _ _ _ f f (b6.q5 a) (aJ U) (aJ U)) λv w5 h'=>?_;obtain ⟨hD,t⟩:=h';rw[jX U U] at hD;obtain ⟨rv,kv,rfl,r⟩:=hD.bjx;have c4:=r.one;have a:=a.ta t;have q:=q.q5 t;have g:=g.k0 t;have j:=j.k0 t;have f:=f.q5 t;have c:=c.q5 t;have i:=i.q5 t;have o:=o.q5 t;have k:=k.trans t;refine ⟨k,?_⟩;refine wh 9 rfl k (eM rfl) (wh 10 rfl k (eX rfl rfl) (wh 11 rfl k (eX rfl rfl) ?_));refine WH.vZ (l:=[.bool false,.slice none 0 0,.int .i64 0]) 12 rfl oR k rfl rfl λb7 h6 p A R a8=>?_;have a7:=Nat.le_trans k.size R;have k:=a8;have c2:=Nat.le_trans a.size R;have a:=a.ta A;have f:=f.q5 A;have c:=c.q5 A;have i:=i.q5 A;have o:=o.q5 A;have r:=r.q5 A;have d9:b≠b7:=by have:=q.lt;omega
   have q:=q.q5 A;have c9:=zdd g.lt R;have g:=g.k0 A;have c7:=zdd j.lt R;have j:=j.k0 A;refine WH.sQ 13 rfl oR k a7 rfl rfl rfl ao p oS rfl λl8 a5 H k=>?_;(try simp only[qt] at a5);have a:=a.s1 H;have q:=q.kq H;have g:=g.kq H;have j:=j.kq H;have f:=f.q8 p H an;have c:=c.q8 p H an;have i:=i.q8 p H an;have o:=o.q8 p H an;have r:=r.q8 p H an;have p:=a5;refine wh 14 rfl k (eA rfl) ?_;refine WH.done oR (d3 _ _ _ ?_);exact ⟨rfl,b7,rv,q,f,c,g,i,j,o,p,r,a,by repeat (first|exact q9.nil|refine q9.cons rfl ?_)⟩
  refine ahj.vZ (l:=[.bool false,.slice none 0 0,.int .i64 0]) 12 rfl k rfl rfl λb7 h6 p A R a8=>?_;have a7:=Nat.le_trans k.size R;have k:=a8;have c2:=Nat.le_trans a.size R;have a:=a.ta A;have f:=f.q5 A;have c:=c.q5 A;have i:=i.q5 A;have o:=o.q5 A;have d9:b≠b7:=by have:=q.lt;omega
  have q:=q.q5 A;have c9:=zdd g.lt R;have g:=g.k0 A;have c7:=zdd j.lt R;have j:=j.k0 A;refine WH.k6 8 rfl oR hasF71 rfl rfl (uQ _ _ _ _ _ _ _ _ _ f f (b6.q5 a) (aJ U) (aJ U)) λv w6 h'=>?_;obtain ⟨hD,t⟩:=h';rw[jX U U] at hD;obtain ⟨rv,kv,rfl,r⟩:=hD.bjx;have c4:=r.one;have a:=a.ta t;have q:=q.q5 t;have g:=g.k0 t;have j:=j.k0 t;have p:=p.k0 t;have f:=f.q5 t;have c:=c.q5 t;have i:=i.q5 t;have o:=o.q5 t;have k:=k.trans t;refine ⟨k,?_⟩;refine wh 9 rfl k (eM rfl) (wh 10 rfl k (eX rfl rfl) (wh 11 rfl k (eX rfl rfl) ?_));refine WH.sQ 13 rfl oR k a7 rfl rfl rfl ao p oS rfl λl7 a5 G k=>?_;(try simp only[qt] at a5);have a:=a.s1 G;have q:=q.kq G;have g:=g.kq G;have j:=j.kq G;have f:=f.q8 p G an;have c:=c.q8 p G an;have i:=i.q8 p G an;have o:=o.q8 p G an;have r:=r.q8 p G an;have p:=a5;refine wh 14 rfl k (eA rfl) ?_;refine WH.done oR (d3 _ _ _ ?_);exact ⟨rfl,b7,rv,q,f,c,g,i,j,o,p,r,a,by repeat (first|exact q9.nil|refine q9.cons rfl ?_)⟩
 rintro _ s' wJ ⟨rfl,b7,rv,q,f,c,g,i,j,o,p,r,a,b8⟩;refine CW.sub b8 ?_;have f4:=i.one;have f3:=o.one;have c4:=r.one;refine CW.anx (λD s' w'=>D=[]/\∃ (b7:Nat) (rv:Value) (b9:Nat) (rb:Value),BK w' b 91 [.int .i64 (S.s.na:Int),.int .i64 (S.s.up:Int),.int .i64 (S.s.dn:Int),.int .i64 (S.s.mi:Int),.int .i64 (S.s.pl:Int),.int .i64 (S.s.al:Int),.bool S.V.neg,.slice av (wd S.V.m).length cv,.int .i64 S.V.e,.bool S.Q.neg,.slice aq (wd S.Q.m).length cq,.int .i64 S.Q.e,.float .f64 S.lo,.float .f64 S.hi]/\NU w' (.slice av (wd S.V.m).length cv) (wd S.V.m)/\NU w' (.slice aq (wd S.Q.m).length cq) (wd S.Q.m)/\BK w' b4 89 [.bool (cZ S.pln).neg,ri,.int .i64 (cZ S.pln).e]/\NU w' ri (wd (cZ S.pln).m)/\BK w' b5 89 [.bool ((fJ (cZ S.pln) axx).getD Dy.zero).neg,rt,.int .i64 ((fJ (cZ S.pln) axx).getD Dy.zero).e]/\NU w' rt (wd ((fJ (cZ S.pln) axx).getD Dy.zero).m)/\BK w' b7 89 [.bool ((fJ S.V S.V).getD Dy.zero).neg,rv,.int .i64 ((fJ S.V S.V).getD Dy.zero).e]/\NU w' rv (wd ((fJ S.V S.V).getD Dy.zero).m)/\BK w' b9 89 [.bool ((fJ (cZ S.pln) S.Q).getD Dy.zero).neg,rb,.int .i64 ((fJ (cZ S.pln) S.Q).getD Dy.zero).e]/\NU w' rb (wd ((fJ (cZ S.pln) S.Q).getD Dy.zero).m)/\Chg [] w w'/\q9 [(0,.pointer (some ⟨b,0,none⟩)),(4,.pointer (some ⟨b4,0,none⟩)),(5,.pointer (some ⟨b5,0,none⟩)),(7,.pointer (some ⟨b7,0,none⟩)),(9,.pointer (some ⟨b9,0,none⟩))] s') ?_ ?_
 ·refine CW.bZ 12 rfl cJ λm2 d2 k y=>?_;have a:=a.ta y;have q:=q.q5 y;have g:=g.k0 y;have j:=j.k0 y;have p:=p.k0 y;have f:=f.q5 y;have c:=c.q5 y;have i:=i.q5 y;have o:=o.q5 y;have r:=r.q5 y;have a2:=q;have e5:=g;refine wh 0 rfl k (λ_ M=>Ev.oQ rfl rfl (e5.q5 M) rfl) (wh 1 rfl k (eM rfl) (wh 2 rfl k (eP rfl) (wh 3 rfl k (eF rfl) (wh 4 rfl k (λ_ M=>Ev.fQ rfl rfl (a2.q5 M) rfl rfl) ?_))))
  try simp only[oL]
  refine WH.c2j 5 9 oR ?_ ?_
  ·refine ahj.call 5 rfl hasF71 rfl rfl (uQ _ _ _ _ _ _ _ _ _ i c (b6.q5 a) (aJ Z) (aJ a0)) λv w7 h'=>?_;obtain ⟨hD,t⟩:=h';rw[jX Z a0] at hD;obtain ⟨rb,kb,rfl,I⟩:=hD.bjx;have f5:=I.one;have a:=a.ta t;have q:=q.q5 t;have g:=g.k0 t;have j:=j.k0 t;have p:=p.k0 t;have f:=f.q5 t;have c:=c.q5 t;have i:=i.q5 t;have o:=o.q5 t;have r:=r.q5 t;have k:=k.trans t;refine ⟨k,?_⟩;refine wh 6 rfl k (eM rfl) (wh 7 rfl k (eX rfl rfl) (wh 8 rfl k (eX rfl rfl) ?_));refine WH.vZ (l:=[.bool false,.slice none 0 0,.int .i64 0]) 9 rfl oR k rfl rfl λb9 h5 B x J a8=>?_;have a6:=Nat.le_trans k.size J;have k:=a8;have c1:=Nat.le_trans a.size J;have a:=a.ta x;have f:=f.q5 x;have c:=c.q5 x;have i:=i.q5 x;have o:=o.q5 x;have r:=r.q5 x;have I:=I.q5 x;have d8:b≠b9:=by have:=q.lt;omega
   have q:=q.q5 x;have c8:=zdd g.lt J;have g:=g.k0 x;have c6:=zdd j.lt J;have j:=j.k0 x;have c5:=zdd p.lt J;have p:=p.k0 x;refine WH.sQ 10 rfl oR k a6 rfl rfl rfl ao B oS rfl λl6 a4 F k=>?_;(try simp only[qt] at a4);have a:=a.s1 F;have q:=q.kq F;have g:=g.kq F;have j:=j.kq F;have p:=p.kq F;have f:=f.q8 B F an;have c:=c.q8 B F an;have i:=i.q8 B F an;have o:=o.q8 B F an;have r:=r.q8 B F an;have I:=I.q8 B F an;have B:=a4;refine wh 11 rfl k (eA rfl) ?_;refine WH.done oR (d2 _ _ _ ?_);exact ⟨rfl,b7,rv,b9,rb,q,f,c,g,i,j,o,p,r,B,I,a,by repeat (first|exact q9.nil|refine q9.cons rfl ?_)⟩
  refine ahj.vZ (l:=[.bool false,.slice none 0 0,.int .i64 0]) 9 rfl k rfl rfl λb9 h5 B x J a8=>?_;have a6:=Nat.le_trans k.size J;have k:=a8;have c1:=Nat.le_trans a.size J;have a:=a.ta x;have f:=f.q5 x;have c:=c.q5 x;have i:=i.q5 x;have o:=o.q5 x;have r:=r.q5 x;have d8:b≠b9:=by have:=q.lt;omega
  have q:=q.q5 x;have c8:=zdd g.lt J;have g:=g.k0 x;have c6:=zdd j.lt J;have j:=j.k0 x;have c5:=zdd p.lt J;have p:=p.k0 x;refine WH.k6 5 rfl oR hasF71 rfl rfl (uQ _ _ _ _ _ _ _ _ _ i c (b6.q5 a) (aJ Z) (aJ a0)) λv w8 h'=>?_;obtain ⟨hD,t⟩:=h';rw[jX Z a0] at hD;obtain ⟨rb,kb,rfl,I⟩:=hD.bjx;have f5:=I.one;have a:=a.ta t;have q:=q.q5 t;have g:=g.k0 t;have j:=j.k0 t;have p:=p.k0 t;have B:=B.k0 t;have f:=f.q5 t;have c:=c.q5 t;have i:=i.q5 t;have o:=o.q5 t;have r:=r.q5 t;have k:=k.trans t;refine ⟨k,?_⟩;refine wh 6 rfl k (eM rfl) (wh 7 rfl k (eX rfl rfl) (wh 8 rfl k (eX rfl rfl) ?_));refine WH.sQ 10 rfl oR k a6 rfl rfl rfl ao B oS rfl λl5 a4 C k=>?_;(try simp only[qt] at a4);have a:=a.s1 C;have q:=q.kq C;have g:=g.kq C;have j:=j.kq C;have p:=p.kq C;have f:=f.q8 B C an;have c:=c.q8 B C an;have i:=i.q8 B C an;have o:=o.q8 B C an;have r:=r.q8 B C an;have I:=I.q8 B C an;have B:=a4;refine wh 11 rfl k (eA rfl) ?_;refine WH.done oR (d2 _ _ _ ?_);exact ⟨rfl,b7,rv,b9,rb,q,f,c,g,i,j,o,p,r,B,I,a,by repeat (first|exact q9.nil|refine q9.cons rfl ?_)⟩
 rintro _ s' wJ ⟨rfl,b7,rv,b9,rb,q,f,c,g,i,j,o,p,r,B,I,a,b8⟩;refine CW.sub b8 ?_;have f4:=i.one;have f3:=o.one;have c4:=r.one;have f5:=I.one;refine zc λ_ d4=>?_;refine CW.bZ 14 rfl cJ λm1 d1 k y=>?_;have a:=a.ta y;have q:=q.q5 y;have j:=j.k0 y;have p:=p.k0 y;have B:=B.k0 y;have c:=c.q5 y;have o:=o.q5 y;have r:=r.q5 y;have I:=I.q5 y;have a2:=q;have e4:=j;have e3:=p;have e2:=B;refine wh 0 rfl k (eM rfl) (wh 1 rfl k (eP rfl) (wh 2 rfl k (eF rfl) (wh 3 rfl k (λ_ M=>Ev.fQ rfl rfl (a2.q5 M) rfl rfl) ?_)))
 try simp only[oL]
 refine wh 4 rfl k (λ_ M=>Ev.oQ rfl rfl (e4.q5 M) rfl) ?_;refine WH.k6 5 rfl oR hasF150 rfl rfl (d9x _ _ _ _ _ _ _ _ _ c o (le_mil a0) (le_mil (tX λd h=>mQ h)) (e_mil a0) (e_mil (tX λd h=>mQ h))) λv w9 h'=>?_;obtain ⟨rfl,t⟩:=h';rw[g6,g6];have a:=a.ta t;have r:=r.q5 t;have I:=I.q5 t;have k:=k.trans t;refine ⟨k,?_⟩
 by_cases hq97:cmpY S.Q ((fJ (cZ S.pln) axx).getD Dy.zero)<0
 ·refine wh 6 rfl k (λ_ _=>Ev.lss rfl rfl) ?_;rw[show decide (bpx _ _ _ _ _ _<0)=true from decide_eq_true hq97];refine wh 7 rfl k (eM rfl) (wg 8 rfl rfl rfl rfl rfl k (λ_ M=>Ev.oQ rfl rfl (e3.q5 M) rfl) (wg 9 rfl rfl rfl rfl rfl k (λ_ M=>Ev.oQ rfl rfl (e2.q5 M) rfl) ?_));refine WH.rX 10 rfl oR rfl rfl rfl rfl hasF150 rfl rfl (d9x _ _ _ _ _ _ _ _ _ r I (le_mil (tX λd h=>mQ h)) (le_mil (tX λd h=>mQ h)) (e_mil (tX λd h=>mQ h)) (e_mil (tX λd h=>mQ h))) λv m8 h'=>?_;obtain ⟨rfl,t⟩:=h';rw[g6,g6];have a:=a.ta t;have k:=k.trans t;refine ⟨k,?_⟩;refine wg 11 rfl rfl rfl rfl rfl k (λ_ _=>Ev.leq rfl rfl) (wh 12 rfl k (λ_ _=>Ev.aex rfl rfl rfl) (wh 13 rfl k (eA rfl) ?_));refine WH.done oR (d1 _ _ _ ?_);refine d4 ?_;refine zr (zr1 rfl rfl ?_);refine ⟨congrArg Value.bool (decide_eq_decide.2 ?_),a⟩;unfold rJ;rw[if_neg h0];exact ⟨λz=>⟨h1,hq97,z⟩,λz=>z.2.2⟩
 refine wh 6 rfl k (λ_ _=>Ev.lss rfl rfl) ?_;rw[show decide (bpx _ _ _ _ _ _<0)=false from decide_eq_false hq97];refine wh 7 rfl k (eM rfl) (wp 8 rfl rfl rfl rfl rfl k (wp 9 rfl rfl rfl rfl rfl k ?_));refine WH.ayj 10 rfl oR rfl rfl rfl rfl k rfl ?_;refine wp 11 rfl rfl rfl rfl rfl k (wh 12 rfl k (λ_ _=>Ev.anq rfl rfl rfl) (wh 13 rfl k (eA rfl) ?_));refine WH.done oR (d1 _ _ _ ?_);refine d4 ?_;refine zr (zr1 rfl rfl ?_);refine ⟨congrArg Value.bool (decide_eq_false λz=>?_).symm,a⟩;unfold rJ at z;rw[if_neg h0] at z;exact hq97 z.2.1
def rdK(bs:List Nat):Nat->List Nat×Nat×Bool
  | 0=>([],0,false)
  | n+1=>((rdK bs n).1++[(rdC bs (rdK bs n).2.1 (rdK bs n).2.2).1],(rdC bs (rdK bs n).2.1 (rdK bs n).2.2).2)
theorem rdK_len(a:List Nat)(n:Nat):(rdK a n).1.length=n:=by
  induction n with
  | zero=>rfl
  | succ n ih=>rw[rdK];simp[ih]
theorem cfq(a:List Nat)(p:Nat)(bad:Bool):(rdC a p bad).1<=1099511627776:=by
  unfold rdC;split
  · exact Nat.zero_le _
  · omega
theorem rdK_le(b:List Nat)(n:Nat): ∀ x∈(rdK b n).1,x<=1099511627776:=by
  induction n with
  | zero=>intro x a;cases a
  | succ n ih=>
    rw[rdK]
    intro x a
    rcases List.mem_append.1 a with a|a
    · exact ih x a
    · rw[List.mem_singleton.1 a];exact cfq ..
def rdE(sm:Bool)(bs:List Nat)(p:Nat)(bad:Bool):Nat×Nat×Nat×Bool:=if sm=true then ((rdN bs p bad 8).1,(rdN bs (rdN bs p bad 8).2.1 (rdN bs p bad 8).2.2 8).1,(rdN bs (rdN bs p bad 8).2.1 (rdN bs p bad 8).2.2 8).2) else (0,0,p,bad)
def ahx(l:List Nat):SP:=⟨l.getD 0 0,l.getD 1 0,l.getD 2 0,l.getD 3 0,l.getD 4 0,l.getD 5 0⟩
def mZ(s:SP)(v q:Bool×List Nat×Int×Nat×Bool)(lo hi:Nat):Sh:=⟨s,⟨v.1,val v.2.1,v.2.2.1⟩,⟨q.1,val q.2.1,q.2.2.1⟩,lo,hi⟩
def d0q(bs:List Nat)(s:SP)(v q:Bool×List Nat×Int×Nat×Bool)(e:Nat×Nat×Nat×Bool):Option Sh:=
  if e.2.2.2=true\/0<bs.length-e.2.2.1\/¬rJ (mZ s v q e.1 e.2.1)\/((mZ s v q e.1 e.2.1).some/\¬vQ (mZ s v q e.1 e.2.1)) then none else some (mZ s v q e.1 e.2.1)
def decV(bs:List Nat)(s:SP)(v q:Bool×List Nat×Int×Nat×Bool):Option Sh:=d0q bs s v q (rdE (decide (s.na<s.al)) bs q.2.2.2.1 q.2.2.2.2)
def drj(bs:List Nat)(s:SP)(v:Bool×List Nat×Int×Nat×Bool):Option Sh:=decV bs s v (rdD bs v.2.2.2.1 v.2.2.2.2)
def akj(bs:List Nat):Option Sh:=
  if (rdK bs 6).2.2=true\/(Sh.mk (ahx (rdK bs 6).1) Dy.zero Dy.zero 0 0).fin<((ahx (rdK bs 6).1).mi:Int)+(ahx (rdK bs 6).1).pl then none else drj bs (ahx (rdK bs 6).1) (rdD bs (rdK bs 6).2.1 (rdK bs 6).2.2)
theorem a4j(a:List Nat)(p k:Nat):rdN a p true k=(0,p,true):=if_pos (.inl rfl)
theorem rdW_bad(a:List Nat)(p n:Nat):(rdW a p true n).2.2=true:=by
  induction n with
  | zero=>rfl
  | succ n ih=>rw[rdW,ih,a4j]
theorem rdD_bad(a:List Nat)(p:Nat):(rdD a p true).2.2.2.2=true:=by
  unfold rdD;simp[a4j,rdW]
theorem dhx{a:List Nat}{p:Nat}{bad:Bool}{x:Bool×List Nat×Int×Nat×Bool}(h:rdD a p bad=x)(b:x.2.2.2.2=false):bad=false:=by
  cases bad with
  | false=>rfl
  | true=>have:=rdD_bad a p;rw[h,b] at this;cases this
theorem blx{b:Bool}{c:List Nat}{p:Nat}{bad:Bool}{x:Nat×Nat×Nat×Bool}(h:rdE b c p bad=x)(a:x.2.2.2=false):bad=false:=by
  cases bad with
  | false=>rfl
  | true=>
    subst h
    unfold rdE at a
    split at a
    · simp[a4j] at a
    · cases a
theorem val_mod(x:Nat)(l:List Nat):val (x::l)%2=x%2:=by rw[val];omega
theorem csx{a:List Nat}(j:B8 a){p:Nat}{bad:Bool}(h:(rdD a p bad).2.2.2.2=false):wd (val (rdD a p bad).2.1)=(rdD a p bad).2.1/\(Dy.mk (rdD a p bad).1 (val (rdD a p bad).2.1) (rdD a p bad).2.2.1).ok:=by
  have C:=aix j p bad 1
  unfold rdD at h ⊢
  generalize rdN a p bad 1=R1 at *
  obtain ⟨n,m,s⟩:=R1
  dsimp only at *
  have B:=aix j m s 2
  generalize rdN a m s 2=R2 at *
  obtain ⟨u,t,A⟩:=R2
  dsimp only at *
  generalize rdN a t A 2=R3 at *
  obtain ⟨e,g,k⟩:=R3
  dsimp only at *
  by_cases hq:1<n\/160<e
  · rw[if_pos hq] at h;cases h
  · rw[if_neg hq] at h ⊢
    have o:=auq a g k e
    have v:=rdW_W j g k e
    generalize rdW a g k e=RW at *
    obtain ⟨d,q,D⟩:=RW
    dsimp only at *
    by_cases h0:e=0
    · rw[if_pos h0] at h
      have r:=of_decide_eq_false h
      have i:d=[]:=List.length_eq_zero_iff.1 oO
      subst i
      have y:decide ((n:Int)=1)=false:=decide_eq_false λz=>r (.inr (.inl z))
      have w:(u:Int)-4096=0:=Classical.byContradiction λz=>r (.inr (.inr z))
      rw[y,w]
      exact ⟨eJ,b4j⟩
    · rw[if_neg h0] at h
      have h:=of_decide_eq_false h
      have c:d.getD (d.length-1) 0≠0:=by rw[o];exact λz=>h (.inr (.inr z))
      have f:=bpj v (.inr c)
      have b:val d%2=1:=by
        cases d with
        | nil=>simp at o;omega
        | cons x l=>rw[val_mod];have : ¬x%2=0:=λz=>h (.inr (.inl (by simpa using z)));omega
      refine ⟨f,λz=>?_,λ_=>b,?_,?_⟩
      · simp only at z;rw[z] at b;cases b
      · simp only[f];omega
      · simp only;have:(256:Nat)^2=65536:=by decide
        omega
def c7q(l:List Nat):List Value:=[.int .i64 (l.getD 0 0:Nat),.int .i64 (l.getD 1 0:Nat),.int .i64 (l.getD 2 0:Nat),.int .i64 (l.getD 3 0:Nat),.int .i64 (l.getD 4 0:Nat),.int .i64 (l.getD 5 0:Nat),.bool false,.slice none 0 0,.int .i64 0,.bool false,.slice none 0 0,.int .i64 0,.float .f64 0,.float .f64 0]
theorem cells14_set{l:List Nat}{i x:Nat}(g:l.length=i)(h:i<6):(c7q l).set i (.int .i64 (x:Int))=c7q (l++[x]):=by
  subst g
  rcases l with _|⟨a,_|⟨b,_|⟨c,_|⟨d,_|⟨e,_|⟨f,l⟩⟩⟩⟩⟩⟩
  · rfl
  · rfl
  · rfl
  · rfl
  · rfl
  · rfl
  · simp at h;omega
theorem ptr6{b i:Nat}(a:i<6):[Value.pointer (some ⟨b,0,none⟩),.pointer (some ⟨b,1,none⟩),.pointer (some ⟨b,2,none⟩),.pointer (some ⟨b,3,none⟩),.pointer (some ⟨b,4,none⟩),.pointer (some ⟨b,5,none⟩)][i]?=some (.pointer (some ⟨b,i,none⟩)):=by
  match i,a with
  | 0,_=>rfl
  | 1,_=>rfl
  | 2,_=>rfl
  | 3,_=>rfl
  | 4,_=>rfl
  | 5,_=>rfl
theorem list6{l:List Nat}(h:l.length=6): ∃ a b c d e f,l=[a,b,c,d,e,f]:=by
  rcases l with _|⟨a,_|⟨b,_|⟨c,_|⟨d,_|⟨e,_|⟨f,_|⟨g,l⟩⟩⟩⟩⟩⟩⟩
  · cases h
  · cases h
  · cases h
  · cases h
  · cases h
  · cases h
  · exact ⟨a,b,c,d,e,f,rfl⟩
  · simp at h
theorem NU.doq{w w':World}{v:Value}{l:List Nat}{lo d p:Nat}{g:List Nat}{bad:Bool}(h:NU w v l)(hT:TpM lo w d g p bad)(e:Chg [d] w w'):NU w' v l:=by
  obtain ⟨a,c,f,_⟩:=hT
  exact h.q8 f e (by intro v b;simp only[List.mem_cons,List.not_mem_nil,or_false] at b;rcases b with rfl|rfl<;>rfl)
structure KDc(b10 b12 b37:Nat)(bs:List Nat)(w0:World)(i:Nat)(w:World):Prop where
  hi:i<=6
  t:TpM (b10+1) w b10 bs (rdK bs i).2.1 (rdK bs i).2.2
  h12:BK w b12 91 (c7q (rdK bs i).1)
  h37:BK w b37 142 [.pointer (some ⟨b12,0,none⟩),.pointer (some ⟨b12,1,none⟩),.pointer (some ⟨b12,2,none⟩),.pointer (some ⟨b12,3,none⟩),.pointer (some ⟨b12,4,none⟩),.pointer (some ⟨b12,5,none⟩)]
  ch:Chg [] w0 w
theorem dax(b:Nat)(s:SP)(p o n m h g f e:Value)(w:World)(d:BK w b 91 [.int .i64 (s.na:Int),.int .i64 (s.up:Int),.int .i64 (s.dn:Int),.int .i64 (s.mi:Int),.int .i64 (s.pl:Int),.int .i64 (s.al:Int),p,o,n,m,h,g,f,e])(l:s.le 1099511627776):Ret Tryz.prog 47 [.pointer (some ⟨b,0,none⟩)] w λu w'=>u = .bool (decide (s.na<s.al))/\Chg [] w w':=by
 obtain ⟨z,y,x,v,t,r⟩:=l;have a:=crf w;refine zE1 Tryz.func47 rfl ?_;refine Sr λ_ k=>za rfl (zz (k (zc λ_ j=>?_)));refine CW.jQ cJ oR λq i c=>?_;have a:=a.ta c;have d:=d.q5 c;refine ym rfl (yP rfl (yf rfl (yf rfl ?_)));refine WS.ev (Ev.load rfl rfl (d.at_ rfl)) rfl ?_;refine ym rfl (yP rfl (yf rfl (yf rfl ?_)));refine WS.ev (Ev.load rfl rfl (d.at_ rfl)) rfl ?_;refine WS.ev (Ev.gtr rfl rfl) rfl ?_;refine ya rfl ?_;refine WS.nil (i _ _ ?_);refine j ?_;refine zr (zr1 rfl rfl ?_);refine ⟨congrArg Value.bool (decide_eq_decide.2 ?_),a⟩;omega
theorem leV_leB(n k:Nat):leV (leB n k)=n%256^k:=by
  induction k with
  | zero=>rw[leB_zero,Nat.pow_zero,Nat.mod_one];rfl
  | succ k ih=>
    rw[dox,leV_snoc,fZ,ih,Nat.pow_succ,Nat.mod_mul,Nat.mul_comm]
theorem amx(n k:Nat):B8 (leB n k):=λx hx=>by
  unfold leB at hx
  obtain ⟨i,_,rfl⟩:=List.mem_map.1 hx
  exact Nat.mod_lt _ oD
theorem B8.append{a b:List Nat}(d:B8 a)(c:B8 b):B8 (a++b):=λx hx=>by
  rcases List.mem_append.1 hx with h|h
  · exact d x h
  · exact c x h
theorem B8.flat{α:Type}{l:List α}{f:α->List Nat}(h : ∀ x,B8 (f x)):B8 (l.map f).flatten:=λx hx=>by
  obtain ⟨m,hm,hx⟩:=List.mem_flatten.1 hx
  obtain ⟨a,_,rfl⟩:=List.mem_map.1 hm
  exact h a x hx
def AtB(bs:List Nat)(p:Nat)(r:List Nat):Prop:=p<=bs.length/\bs.drop p=r
theorem AtB.step{b:List Nat}{p:Nat}{a r:List Nat}(h:AtB b p (a++r)){k:Nat}(d:a.length=k):AtB b (p+k) r:=by
  obtain ⟨f,c⟩:=h
  have e:b.length-p=a.length+r.length:=by rw[<- List.length_drop,c,List.length_append]
  refine ⟨by omega,?_⟩
  rw[<- List.drop_drop,c,<- d,List.drop_left]
theorem dgj{a:List Nat}{p n k:Nat}{r:List Nat}(h:AtB a p (leB n k++r))(c:n<256^k):rdN a p false k=(n,p+k,false)/\AtB a (p+k) r:=by
  refine ⟨?_,h.step (fZ n k)⟩
  obtain ⟨e,b⟩:=h
  have d:a.length-p=k+r.length:=by rw[<- List.length_drop,b,List.length_append,fZ]
  unfold rdN
  rw[if_neg oT,b,List.take_left' (fZ n k),leV_leB,Nat.mod_eq_of_lt c]
theorem d3j{a:List Nat}{p n:Nat}{r:List Nat}(h:AtB a p (leB n 8++r))(b:n<=1099511627776):rdC a p false=(n,p+8,false)/\AtB a (p+8) r:=by
  obtain ⟨d,c⟩:=dgj h (Nat.lt_of_le_of_lt b oD)
  refine ⟨?_,c⟩
  unfold rdC
  rw[d,if_neg (by simp only;omega)]
theorem rdW_s{b:List Nat}{p:Nat}{a r:List Nat}(h:AtB b p ((a.map λx=>leB x 4).flatten++r))(e:W a): ∀ n,n<=a.length->rdW b p false n=(a.take n,p+4*n,false)/\AtB b (p+4*n) (((a.drop n).map λx=>leB x 4).flatten++r):=by
  intro n
  induction n with
  | zero=>intro _;exact ⟨by simp[rdW],by simpa using h⟩
  | succ n ih=>
    intro j
    obtain ⟨i,c⟩:=ih oO
    have d:a.drop n=a.getD n 0::a.drop (n+1):=by
      rw[List.drop_eq_getElem_cons (by omega:n<a.length),List.getD_eq_getElem?_getD,List.getElem?_eq_getElem oO];rfl
    rw[d,List.map_cons,List.flatten_cons,List.append_assoc] at c
    obtain ⟨g,f⟩:=dgj c (Nat.lt_of_lt_of_le (e.getD n) oD)
    rw[show p+4*(n+1)=p+4*n+4 by omega]
    refine ⟨?_,f⟩
    rw[rdW,i]
    simp only[g]
    rw[arx oO]
theorem wd_head{n:Nat}(h:n≠0):(wd n).getD 0 0%2=n%2:=by rw[cqq h];simp
theorem rdD_s{b:List Nat}{p:Nat}{d:Dy}{r:List Nat}(h:AtB b p (aej d++r))(a:d.ok)(s : -4096<=d.e/\d.e<=61439)(o:(wd d.m).length<=160):rdD b p false=(d.neg,wd d.m,d.e,p+(aej d).length,false)/\AtB b (p+(aej d).length) r:=by
  refine ⟨?_,h.step rfl⟩
  unfold aej at h
  simp only[List.append_assoc] at h
  obtain ⟨n,h⟩:=dgj h (by split<;>decide)
  obtain ⟨l,h⟩:=dgj h (by show (d.e+4096).toNat<65536;omega)
  obtain ⟨k,h⟩:=dgj h (by show (wd d.m).length<65536;omega)
  obtain ⟨c,h⟩:=rdW_s h (W_wd _) _ (Nat.le_refl _)
  rw[List.take_length] at c
  unfold rdD
  rw[n];dsimp only
  rw[l];dsimp only
  rw[k];dsimp only
  rw[if_neg (by split<;>omega),c];dsimp only
  have j:decide (((if d.neg=true then 1 else 0:Nat):Int)=1)=d.neg:=by cases d.neg<;>rfl
  have i:(((d.e+4096).toNat:Nat):Int)-4096=d.e:=by omega
  rw[j,i,pJ,show p+1+2+2+4*(wd d.m).length=p+(5+4*(wd d.m).length) by omega]
  by_cases h0:d.m=0
  · have f:=a.z h0
    rw[if_pos (by rw[aqj];exact h0)]
    have:d.neg=false/\d.e=0:=by rw[f];exact ⟨rfl,rfl⟩
    rw[this.1,this.2];simp
  · rw[if_neg (λq=>h0 (aqj.1 q))]
    have u:=a.odd h0
    have t:=wd_head h0
    have g:=ciq h0
    rw[decide_eq_false (by rintro (q|q|q);cases q;omega;exact g q)]
theorem rdK_s{g:List Nat}{a b c d e f:Nat}{r:List Nat}(h:AtB g 0 (leB a 8++(leB b 8++(leB c 8++(leB d 8++(leB e 8++(leB f 8++r)))))))
    (u:a<=1099511627776) (t:b<=1099511627776) (s:c<=1099511627776) (q:d<=1099511627776) (p:e<=1099511627776) (o:f<=1099511627776):rdK g 6=([a,b,c,d,e,f],48,false)/\AtB g 48 r:=by
  obtain ⟨n,h⟩:=d3j h u
  obtain ⟨m,h⟩:=d3j h t
  obtain ⟨l,h⟩:=d3j h s
  obtain ⟨k,h⟩:=d3j h q
  obtain ⟨j,h⟩:=d3j h p
  obtain ⟨i,h⟩:=d3j h o
  simp only[Nat.zero_add,Nat.reduceAdd] at n m l k j i h
  refine ⟨?_,h⟩
  simp only[rdK,n,m,l,k,j,i]
  rfl
structure Sh.back(S:Sh):Prop where
  wf:S.wf
  ex:S.ex
  no : ¬S.some->S.lo=0/\S.hi=0
  fin:(S.s.mi:Int)+S.s.pl<=S.fin
  sums:rJ S
  ends : S.some -> vQ S
theorem decS_encS{S:Sh}(h:S.back):akj (adx S)=some S:=by
  obtain ⟨⟨⟨s1,s2,u,t,r,p⟩,x,y,k,l⟩,c,g,o,a,d⟩:=h
  have J:AtB (adx S) 0 (adx S):=⟨Nat.zero_le _,rfl⟩
  have D:AtB (adx S) 0 (leB S.s.na 8++(leB S.s.up 8++(leB S.s.dn 8++(leB S.s.mi 8++(leB S.s.pl 8++(leB S.s.al 8++(aej S.V++(aej S.Q++((if S.some then leB S.lo 8++leB S.hi 8 else [])++[]))))))))):=by
    refine ⟨Nat.zero_le _,?_⟩
    unfold adx
    simp only[List.append_assoc,List.drop_zero,List.append_nil]
  obtain ⟨w,C⟩:=rdK_s D s1 s2 u t r p
  obtain ⟨I,B⟩:=rdD_s C x c.v c.lv
  obtain ⟨H,i⟩:=rdD_s B y c.q c.lq
  have j:ahx [S.s.na,S.s.up,S.s.dn,S.s.mi,S.s.pl,S.s.al]=S.s:=rfl
  unfold akj
  rw[w]
  simp only[j]
  rw[if_neg (by rintro (q|q);cases q;exact absurd q (by have:(Sh.mk S.s Dy.zero Dy.zero 0 0).fin=S.fin:=rfl;rw[this];omega)),I]
  unfold drj
  simp only[H]
  unfold decV
  simp only
  have f:mZ S.s (S.V.neg,wd S.V.m,S.V.e,48+(aej S.V).length,false) (S.Q.neg,wd S.Q.m,S.Q.e,48+(aej S.V).length+(aej S.Q).length,false) S.lo S.hi=S:=by
    unfold mZ
    simp only[g6]
  by_cases hs:S.some
  · rw[if_pos hs,List.append_assoc] at i
    obtain ⟨G,A⟩:=dgj i k
    obtain ⟨F,z⟩:=dgj A l
    have n:rdE (decide (S.s.na<S.s.al)) (adx S) (48+(aej S.V).length+(aej S.Q).length) false=(S.lo,S.hi,48+(aej S.V).length+(aej S.Q).length+8+8,false):=by
      unfold rdE
      rw[if_pos (show decide (S.s.na<S.s.al)=true from decide_eq_true hs),G];dsimp only
      rw[F]
    rw[n]
    unfold d0q
    simp only[f]
    have b:(adx S).length-(48+(aej S.V).length+(aej S.Q).length+8+8)=0:=by rw[<- List.length_drop,z.2];rfl
    rw[if_neg]
    rintro (q|q|q|q)
    · cases q
    · rw[b] at q;omega
    · exact q a
    · exact q.2 (d hs)
  · rw[if_neg hs] at i
    have n:rdE (decide (S.s.na<S.s.al)) (adx S) (48+(aej S.V).length+(aej S.Q).length) false=(S.lo,S.hi,48+(aej S.V).length+(aej S.Q).length,false):=by
      unfold rdE
      rw[if_neg (by simpa[Sh.some] using hs),(g hs).1,(g hs).2]
    rw[n]
    unfold d0q
    simp only[f]
    have b:(adx S).length-(48+(aej S.V).length+(aej S.Q).length)=0:=by rw[<- List.length_drop,i.2];rfl
    rw[if_neg]
    rintro (q|q|q|q)
    · cases q
    · rw[b] at q;omega
    · exact q a
    · exact hs q.1
theorem encS_B8(S:Sh):B8 (adx S):=by
  unfold adx aej
  refine ((((((((amx _ _).append (amx _ _)).append (amx _ _)).append (amx _ _)).append (amx _ _)).append (amx _ _)).append ?_).append ?_).append ?_
  · exact (((amx _ _).append (amx _ _)).append (amx _ _)).append (B8.flat λx=>amx x 4)
  · exact (((amx _ _).append (amx _ _)).append (amx _ _)).append (B8.flat λx=>amx x 4)
  · split
    · exact (amx _ _).append (amx _ _)
    · intro x a;cases a
def fnv(l:List Nat):Nat:=l.foldl (λh c=>(h ^^^ c)*16777619%4294967296) 2166136261
def recB(nm data:List Nat):List Nat:=([nm.length%256]++nm)++leB data.length 3++data
def laidB(nm data:List Nat):List Nat:=recB nm data++leB (fnv (recB nm data)) 4
abbrev RG:=ByteArray×List Nat×Value
def recC(G:List RG):List Value:=(G.map λg=>[Value.string g.1,g.2.2]).flatten
def szG(g:RG):Nat:=8+(sB g.1).length+g.2.1.length
def totG(G:List RG):Nat:=(G.map szG).sum
def bytG(G:List RG):List Nat:=(G.map λg=>laidB (sB g.1) g.2.1).flatten
structure LgM(lo:Nat)(w:World)(b:Nat)(G:List RG):Prop where
  ex : ∃ v,BK w b 164 [v,.int .i64 ((totG G:Nat):Int)]/\GRc w 105 2 lo [] v G.length (recC G)
  dat : ∀ g∈G,GR w 5 u8v 0 [] g.2.2 g.2.1/\B8 g.2.1
  tot:totG G<=1048576
namespace Sx
section
variable {P:Program} {n:Nat} {D:List Deferred} {s:Sl} {w:World} {ops:Array Oper} {K:KK} {rest:List Oper} {ty:TypeId} {pos:String} {af:Array Edge} {d:Nat} {x y:Operand} {S:World->Prop} {z fuel:Nat} {listed:Array Bool}
end
end Sx
end
section
open Go Sx Wd Fl
def DatM(w:World)(G:List RG):Prop:=∀ g∈G,GR w 5 u8v 0 [] g.2.2 g.2.1/\B8 g.2.1
theorem encS_len{S:Sh}(h:S.ex):(adx S).length<=1354:=by
  have b:=h.lv
  have a:=h.lq
  unfold adx
  simp only[List.length_append,fZ,pJ]
  split
  · rw[List.length_append,fZ,fZ];omega
  · rw[List.length_nil];omega
theorem bjj(a:Option Addr)(B:List Nat)(c:Nat)(w:World)(hr:RW w a (B.map u8v))(m9:B.length<=c)(l2 : ∀ ad,a=some ad->ad.block<w.heap.size)(hB:B8 B)(hL:B.length<=140737488355328)(hg:GW w):Ret Tryz.prog 25 [.slice a B.length c] w λu w'=>((∃ S b,akj B=some S/\u = .tuple [.pointer (some ⟨b,0,none⟩),.int .i64 0].toArray/\ShM 91 w' b S/\w.heap.size<=b/\S.wf)\/(akj B=none/\u = .tuple [.pointer none,.int .i64 210].toArray))/\Chg [] w w':=by
 have f:=crf w;have l0:=hg;refine zE1 Tryz.func25 rfl ?_;refine Sr λ_ i5=>za rfl (za rfl (zz (i5 ?_)));refine Sq λ_ i4 _ i0=>?_;refine zm rfl ?_;refine WL.ev (Ev.build (vs:=_) (cs:=[_,_]) rfl rfl) rfl ?_;refine zBh rfl rfl rfl f λG m0 c9 l1 k1 e3 f=>?_;refine za rfl ?_;refine WL.nil (i0 _ _ _ ?_);have A:TpM (G+1) _ G B 0 false:=⟨a,c,by rw[Nat.sub_zero];exact c9,by rw[List.drop_zero];exact hr.q5 f,Nat.zero_le _,by omega,Nat.lt_succ_self _,λad e=>by have:=l2 ad e;omega⟩;have i7:=c9.lt;refine i4 _ _ _ ?_;refine Sq λ_ i3 _ h9=>?_;refine WL.ev (Ev.build (vs:=_) (cs:=[_,_,_,_,_,_,_,_,_,_,_,_,_,_]) rfl rfl) rfl ?_;refine zBh rfl rfl rfl f λF l9 d d1 i9 e0 f=>?_;have A:=A.q5 d1;refine za rfl ?_;refine WL.nil (h9 _ _ _ ?_);have a8:G+1<=F:=by omega
 refine i3 _ _ _ ?_;refine zc λ_ i2=>zc λ_ i1=>?_;refine CW.bZ 27 rfl cJ λp4 h8 g a9=>?_;have f:=f.ta a9;have d:=d.q5 a9;have A:=A.q5 a9;have a4:=d;refine wh 0 rfl g (eM rfl) (wh 1 rfl g (eP rfl) (wh 2 rfl g (eF rfl) (wh 3 rfl g (eF rfl) (wh 4 rfl g (eM rfl) (wh 5 rfl g (eP rfl) (wh 6 rfl g (eF rfl) (wh 7 rfl g (eF rfl) (wh 8 rfl g (eM rfl) (wh 9 rfl g (eP rfl) (wh 10 rfl g (eF rfl) (wh 11 rfl g (eF rfl) (wh 12 rfl g (eM rfl) (wh 13 rfl g (eP rfl) (wh 14 rfl g (eF rfl) (wh 15 rfl g (eF rfl) (wh 16 rfl g (eM rfl) (wh 17 rfl g (eP rfl) (wh 18 rfl g (eF rfl) (wh 19 rfl g (eF rfl) (wh 20 rfl g (eM rfl) (wh 21 rfl g (eP rfl) (wh 22 rfl g (eF rfl) (wh 23 rfl g (eF rfl) ?_)))))))))))))))))))))));refine wh 26 rfl g (eM rfl) ?_;refine WH.bgq (m:=6) (cs:=[.pointer (some ⟨F,0,none⟩),.pointer (some ⟨F,1,none⟩),.pointer (some ⟨F,2,none⟩),.pointer (some ⟨F,3,none⟩),.pointer (some ⟨F,4,none⟩),.pointer (some ⟨F,5,none⟩)]) 24 rfl oR g oD oD rfl oR rfl λc7 o2 a7 g=>?_;have T:=a7.at_;have i8:=a7.ge;have m8:=d.lt;have A:=A.q5 a7.chg;have d:=d.q5 a7.chg;have f:=f.trans (Chg.any a7.chg);refine wh 25 rfl g (λ_ _=>Ev.len rfl) ?_;refine WH.done oR (h8 _ _ _ ?_);refine i1 (CW.block ?_);refine CW.loop (S:=λi:Nat=>[(2,.pointer none),(3,.int .i64 0),(4,.pointer (some ⟨G,0,none⟩)),(5,.pointer (some ⟨F,0,none⟩)),(37,.slice (some ⟨c7,0,none⟩) 6 6),(38,.int .i64 6),(39,.int .i64 (i:Int))]) (Inv:=KDc G F c7 B w) (mu:=λi=>6-i) (0) ?_ ?_ ?_
 ·exact ⟨Nat.zero_le _,A,d,T,f⟩
 ·exact SLp
 rintro i wr ⟨J,A,d,T,f⟩;have m7:c7≠F/\c7≠G:=⟨by omega,by omega⟩;refine Sr λ_ f9=>zL rfl rfl (zz (f9 (zc λ_ f8=>?_)));refine zy rfl ?_ ?_<;>intro d5<;>try simp only[qs] at d5
 ·have c2:i<6:=by have:=d5;omega
  have c1:=rdK_len B i;refine zkk (f8 (zc λ_ f7=>CW.block (Sr λ_ f6=>?_)));refine WL.ev (Ev.ixB (i) rfl rfl oO oO) rfl ?_;refine WL.ev (Ev.load (v:=.pointer (some ⟨F,i,none⟩)) rfl rfl (T.at_ (ptr6 c2))) rfl ?_;refine za rfl (zz (f6 ?_));refine zR λ_ e8=>?_;refine zm rfl (zm rfl ?_);refine WL.call hasF80 rfl rfl (count_spec21 (G+1) G _ B _ _ A hL hB) λv w1 h'=>?_;obtain ⟨rfl,A,C⟩:=h';have d:=d.gZ C oT;have T:=T.gZ C oT;have f:=f.step C (λy hy=>.inr (by rw[List.mem_singleton.1 hy];omega));have g4:rdK B (i+1)=((rdK B i).1++[(rdC B (rdK B i).2.1 (rdK B i).2.2).1],(rdC B (rdK B i).2.1 (rdK B i).2.2).2):=by rw[rdK]
  refine zP rfl ?_;refine WL.bJ rfl rfl rfl d (by show i<14;omega) rfl λn8 k b8=>?_;rw[cells14_set c1 c2] at k;have A:=A.q8 d b8 (by intro v hv;simp only[c7q,List.mem_cons,List.not_mem_nil,or_false] at hv;rcases hv with rfl|rfl|rfl|rfl|rfl|rfl|rfl|rfl|rfl|rfl|rfl|rfl|rfl|rfl<;>rfl) a8;have T:=T.gZ b8 oT;have f:=f.step b8 (λy hy=>.inr (by rw[List.mem_singleton.1 hy];omega));have d:=k;refine WL.nil (e8 _ _ _ (f7 ?_));refine zS λ_ e7=>?_;(first|refine zi rfl rfl ?_|refine zo rfl rfl ?_);refine zm rfl (zz (e7 ?_));refine ⟨rfl,i+1,?_,?_,?_⟩
  ·exact SLp
  ·refine ⟨by omega,?_,?_,T,f⟩
   · rw[g4];exact A
   rw[g4];exact d
  show 6-(i+1)<6-i;omega
 have c2:i=6:=by have:=d5;omega
 subst c2;have c1:=rdK_len B 6;have Z:=rdK_le B 6;generalize hRK:rdK B 6=RK at *;obtain ⟨l,p6,d6⟩:=RK
 try dsimp only
 dsimp only at A d c1 Z;obtain ⟨n1,n2,n3,n4,n5,n6,rfl⟩:=list6 c1;obtain ⟨s,hs⟩ : ∃ s:SP,s=ahx [n1,n2,n3,n4,n5,n6]:=⟨_,rfl⟩;have Y:s.le 1099511627776:=by rw[hs];exact ⟨Z _ (by simp[ahx]),Z _ (by simp[ahx]),Z _ (by simp[ahx]),Z _ (by simp[ahx]),Z _ (by simp[ahx]),Z _ (by simp[ahx])⟩
 have d:BK wr F 91 [.int .i64 (s.na:Int),.int .i64 (s.up:Int),.int .i64 (s.dn:Int),.int .i64 (s.mi:Int),.int .i64 (s.pl:Int),.int .i64 (s.al:Int),.bool false,.slice none 0 0,.int .i64 0,.bool false,.slice none 0 0,.int .i64 0,.float .f64 0,.float .f64 0]:=by rw[hs];exact d
 obtain ⟨q6,q4,q3,q0,p9,p5⟩:=id Y;refine CW.exit ?_;refine i2 (zc λ_ f5=>?_);refine CW.axj 67 (decide (d6=true\/(Sh.mk s Dy.zero Dy.zero 0 0).fin<(s.mi:Int)+s.pl)) ?_ ?_
 ·intro r;refine CW.bZ 20 rfl cJ λm5 c8 g a9=>?_;have r:=r.ta a9;have d:=d.q5 a9;have A:=A.q5 a9;have a4:=d;obtain ⟨r5,r4,c3,i6,-⟩:=id A;have d9:=c3;refine wh 0 rfl g (eM rfl) (wh 1 rfl g (eP rfl) (wh 2 rfl g (eF rfl) (wh 3 rfl g (λ_ b4=>Ev.load (v:=.bool d6) rfl rfl ((d9.q5 b4).at_ rfl)) ?_)));cases d6
  ·refine wh 4 rfl g (eM rfl) (wg 5 rfl rfl rfl rfl rfl g (eM rfl) (wg 7 rfl rfl rfl rfl rfl g (eM rfl) (wg 8 rfl rfl rfl rfl rfl g (eP rfl) (wg 9 rfl rfl rfl rfl rfl g (eF rfl) (wg 10 rfl rfl rfl rfl rfl g (eF rfl) (wg 11 rfl rfl rfl rfl rfl g (λ_ b4=>Ev.load rfl rfl ((a4.q5 b4).at_ rfl)) (wg 12 rfl rfl rfl rfl rfl g (eM rfl) (wg 13 rfl rfl rfl rfl rfl g (eP rfl) (wg 14 rfl rfl rfl rfl rfl g (eF rfl) (wg 15 rfl rfl rfl rfl rfl g (eF rfl) (wg 16 rfl rfl rfl rfl rfl g (λ_ b4=>Ev.load rfl rfl ((a4.q5 b4).at_ rfl)) (wg 17 rfl rfl rfl rfl rfl g (λ_ _=>Ev.jZ rfl rfl oO) ?_))))))))))));refine WH.rX 6 rfl oR rfl rfl rfl rfl hasF78 rfl rfl (ajq F (Sh.mk s Dy.zero Dy.zero 0 0) _ ⟨_,_,d,(by rw[show (Sh.mk s Dy.zero Dy.zero 0 0).V.m=0 from rfl,eJ];exact NU.nil),(by rw[show (Sh.mk s Dy.zero Dy.zero 0 0).Q.m=0 from rfl,eJ];exact NU.nil)⟩ Y) λv w2 h'=>?_;obtain ⟨rfl,C⟩:=h';have r:=r.ta C;have g:=g.trans C;refine ⟨g,?_⟩;refine wg 18 rfl rfl rfl rfl rfl g (λ_ _=>Ev.lss rfl rfl) (wh 19 rfl g (λ_ _=>Ev.anq rfl rfl rfl) ?_);refine WH.done oR (c8 _ _ _ ?_);refine ⟨rfl,r,q9.g7 rfl ?_ ?_⟩
   ·exact AqE
   exact SMg
  refine wh 4 rfl g (eM rfl) (wp 5 rfl rfl rfl rfl rfl g (wp 7 rfl rfl rfl rfl rfl g (wp 8 rfl rfl rfl rfl rfl g (wp 9 rfl rfl rfl rfl rfl g (wp 10 rfl rfl rfl rfl rfl g (wp 11 rfl rfl rfl rfl rfl g (wp 12 rfl rfl rfl rfl rfl g (wp 13 rfl rfl rfl rfl rfl g (wp 14 rfl rfl rfl rfl rfl g (wp 15 rfl rfl rfl rfl rfl g (wp 16 rfl rfl rfl rfl rfl g (wp 17 rfl rfl rfl rfl rfl g ?_))))))))))));refine WH.ayj 6 rfl oR rfl rfl rfl rfl g rfl ?_;refine wp 18 rfl rfl rfl rfl rfl g (wh 19 rfl g (λ_ _=>Ev.aex rfl rfl rfl) ?_);refine WH.done oR (c8 _ _ _ ?_);refine ⟨rfl,r,q9.g7 rfl ?_ ?_⟩
  ·exact AqE
  exact SMg
 intro wM r;have f:=f.ta r;have d:=d.q5 r;have A:=A.q5 r;refine zy rfl ?_ ?_<;>intro d4<;>try simp only[qs] at d4
 ·have h1:d6=true\/(Sh.mk s Dy.zero Dy.zero 0 0).fin<(s.mi:Int)+s.pl:=by simpa using d4
  have hD:akj B=none:=by unfold akj;rw[hRK];exact if_pos (by rw[hs] at h1;exact h1)
  refine Sr λ_ f4=>za rfl (za rfl (zz (f4 ?_)));refine zr (zr2 rfl rfl rfl ?_);refine ⟨.inr ⟨hD,rfl⟩,f⟩
 have h1 : ¬(d6=true\/(Sh.mk s Dy.zero Dy.zero 0 0).fin<(s.mi:Int)+s.pl):=by simpa using d4
 have g9:akj B=drj B s (rdD B p6 d6):=by unfold akj;rw[hRK];dsimp only;rw[<- hs];exact if_neg h1
 refine zkk (f5 (Sr λ_ f3=>zm rfl (zm rfl (zm rfl ?_))));refine WL.call hasF81 rfl rfl (c8j (G+1) G p6 B d6 _ A hL hB (Nat.le_trans a8 (Nat.le_of_lt d.lt))) λv w3 h'=>?_;obtain ⟨b2,rfl,h,A,C⟩:=h';have hV:=csx hB (p:=p6) (bad:=d6);generalize hRV:rdD B p6 d6=RV at *;obtain ⟨t,j,U,I,H⟩:=RV
 try dsimp only
 dsimp only at A h hV g9;have r1:=h.one;have d:=d.gZ C oT;have f:=f.step C (λy hy=>.inr (by rw[List.mem_singleton.1 hy];omega));refine zm rfl ?_;refine WL.call hasF81 rfl rfl (c8j (G+1) G I B H _ A hL hB (Nat.le_trans a8 (Nat.le_of_lt d.lt))) λv w4 h'=>?_;obtain ⟨b1,rfl,o,b9,C⟩:=h';have h:=h.doq A C;have A:=b9;have hQ:=csx hB (p:=I) (bad:=H);have l3:akj B=decV B s (t,j,U,I,H) (rdD B I H):=g9;generalize hRQ:rdD B I H=RQ at *;obtain ⟨x,n,X,O,M⟩:=RQ
 try dsimp only
 dsimp only at A o hQ;have r0:=o.one;have d:=d.gZ C oT;have f:=f.step C (λy hy=>.inr (by rw[List.mem_singleton.1 hy];omega));refine zP rfl (zf rfl ?_);refine zss rfl rfl ao d rfl λl8 k a3=>?_;(try simp only[qt] at k);have f:=f.s1 a3;have A:=A.q8 d a3 an;have h:=h.q8 d a3 an;have o:=o.q8 d a3 an;have d:=k;refine zP rfl (zf rfl ?_);refine zss rfl rfl ao d rfl λl7 k a2=>?_;(try simp only[qt] at k);have f:=f.s1 a2;have A:=A.q8 d a2 an;have h:=h.q8 d a2 an;have o:=o.q8 d a2 an;have d:=k;refine zz (f3 ?_);refine CW.anx (λD s' w'=>D=[]/\(∃ R J q bd,rdE (decide (s.na<s.al)) B O M=(R,J,q,bd)/\R<18446744073709551616/\J<18446744073709551616/\TpM (G+1) w' G B q bd/\BK w' F 91 [.int .i64 (s.na:Int),.int .i64 (s.up:Int),.int .i64 (s.dn:Int),.int .i64 (s.mi:Int),.int .i64 (s.pl:Int),.int .i64 (s.al:Int),.bool t,b2,.int .i64 U,.bool x,b1,.int .i64 X,.float .f64 R,.float .f64 J])/\NU w' b2 j/\NU w' b1 n/\Chg [] w w'/\q9 [(2,.pointer none),(3,.int .i64 0),(4,.pointer (some ⟨G,0,none⟩)),(5,.pointer (some ⟨F,0,none⟩))] s') ?_ ?_
 ·refine Sr λ_ f2=>zm rfl ?_;refine WL.call hasF47 rfl rfl (dax F s _ _ _ _ _ _ _ _ _ d Y) λv w5 h'=>?_;obtain ⟨rfl,C⟩:=h';have f:=f.ta C;have d:=d.q5 C;have A:=A.q5 C;have h:=h.q5 C;have o:=o.q5 C;refine zz (f2 ?_);refine zy rfl ?_ ?_<;>intro d3<;>try simp only[qs] at d3
  ·have d0:s.na<s.al:=by simpa using d3
   refine zS λ_ e6=>zm rfl (zm rfl (zm rfl ?_));refine WL.call hasF83 rfl rfl (ajx (G+1) G _ B _ 8 _ A hL hB oD) λv w6 h'=>?_;obtain ⟨rfl,b9,C⟩:=h';have h:=h.doq A C;have o:=o.doq A C;have A:=b9;have g2:=crj hB O M 8 oD;generalize hR1:rdN B O M 8=R1 at *;obtain ⟨m1,q1,x1⟩:=R1;dsimp only at A g2;dsimp only;have d:=d.gZ C oT;have f:=f.step C (λy hy=>.inr (by rw[List.mem_singleton.1 hy];omega));refine WL.ev (Ev.ext rfl (ext82 _ _)) rfl ?_;refine zm rfl ?_;refine WL.call hasF83 rfl rfl (ajx (G+1) G _ B _ 8 _ A hL hB oD) λv w7 h'=>?_;obtain ⟨rfl,b9,C⟩:=h';have h:=h.doq A C;have o:=o.doq A C;have A:=b9;have g1:=crj hB q1 x1 8 oD;generalize hR2:rdN B q1 x1 8=R2 at *;obtain ⟨m2,q2,x2⟩:=R2;dsimp only at A g1;dsimp only;have d:=d.gZ C oT;have f:=f.step C (λy hy=>.inr (by rw[List.mem_singleton.1 hy];omega));refine WL.ev (Ev.ext rfl (ext82 _ _)) rfl ?_;refine zP rfl (zf rfl ?_);refine WL.bJ rfl rfl o1 d oS rfl λl6 k a1=>?_;(try simp only[qt] at k);have f:=f.s1 a1;have A:=A.q8 d a1 an;have h:=h.q8 d a1 an;have o:=o.q8 d a1 an;have d:=k;refine zP rfl (zf rfl ?_);refine WL.bJ rfl rfl o1 d oS rfl λl5 k a0=>?_;(try simp only[qt] at k);have f:=f.s1 a0;have A:=A.q8 d a0 an;have h:=h.q8 d a0 an;have o:=o.q8 d a0 an;have d:=k;refine zz (e6 ?_);refine ⟨rfl,⟨m1,m2,q2,x2,?_,g2,g1,A,?_⟩,h,o,f,(by first|((repeat (first|exact q9.refl|refine q9.nJ (by rfl) ?_));done)|((repeat (first|exact q9.nil|refine q9.cons rfl ?_));done))⟩
   · unfold rdE;rw[if_pos (decide_eq_true d0),hR1];dsimp only;rw[hR2]
   exact d
  have d0 : ¬s.na<s.al:=by simpa using d3
  refine zkk ?_;refine ⟨rfl,⟨0,0,O,M,?_,by decide,by decide,A,d⟩,h,o,f,(by first|((repeat (first|exact q9.refl|refine q9.nJ (by rfl) ?_));done)|((repeat (first|exact q9.nil|refine q9.cons rfl ?_));done))⟩;unfold rdE;rw[if_neg (by simpa using d0)]
 rintro _ s' wJ ⟨rfl,⟨R,J,q,bd,hE,b5,b6,A,d⟩,h,o,f,g0⟩;refine CW.sub g0 ?_;have g5:akj B=d0q B s (t,j,U,I,H) (x,n,X,O,M) (R,J,q,bd):=by rw[l3,<- hE];rfl
 have b0:bd=false->M=false:=λz=>blx hE z;have b7:bd=false->H=false:=λz=>dhx hRQ (b0 z);refine zc λ_ f1=>?_;refine CW.axj 117 (decide (bd=true\/0<B.length-q\/¬rJ (mZ s (t,j,U,I,H) (x,n,X,O,M) R J)\/((mZ s (t,j,U,I,H) (x,n,X,O,M) R J).some/\¬vQ (mZ s (t,j,U,I,H) (x,n,X,O,M) R J)))) ?_ ?_
 ·intro r;obtain ⟨h2,h0,c3,i6,-⟩:=id A;refine zS λ_ a6=>zm rfl (zP rfl (zf rfl ?_));refine WL.ev (Ev.load (v:=.bool bd) rfl rfl (c3.at_ rfl)) rfl ?_;refine zm rfl ?_;refine zb ?_ ?_<;>intro k5<;>try simp only[qs] at k5
  ·refine zv rfl (zv rfl (zv rfl (zv rfl (zv rfl (zv rfl (zt rfl rfl (zm rfl (zv rfl (zv rfl (zv rfl (zt rfl rfl (zm rfl (zv rfl (zv rfl (zv rfl (zu rfl (zu rfl (zu rfl (zv rfl (zt rfl rfl (zz (a6 ?_))))))))))))))))))))));refine ⟨rfl,r,q9.g7 rfl ?_ ?_⟩
   ·first|(refine (decide_eq_true ?_).symm;simp_all;done)|(refine (decide_eq_false ?_).symm;simp_all;done)|(refine (decide_eq_true (.inr (.inl ?_))).symm;omega)|(by_cases he:vQ (mZ s (t,j,U,I,H) (x,n,X,O,M) R J)<;>simp_all [Sh.some,mZ];done)|(refine decide_eq_decide.2 ?_;simp_all;done)
   exact SMg
  refine zw rfl (zm rfl (zw rfl (zP rfl (zw rfl (zf rfl (zw rfl ?_))))));refine WL.ev (Ev.load (v:=.slice h2 (B.length-q) h0) rfl rfl (c3.at_ rfl)) rfl ?_;refine zw rfl (zn rfl (zw rfl (zG rfl rfl (ze rfl rfl (zm rfl ?_)))));refine zb ?_ ?_<;>intro k4<;>try simp only[qs] at k4
  ·refine zv rfl (zv rfl (zv rfl (zt rfl rfl (zm rfl (zv rfl (zv rfl (zv rfl (zu rfl (zu rfl (zu rfl (zv rfl (zt rfl rfl (zz (a6 ?_))))))))))))));refine ⟨rfl,r,q9.g7 rfl ?_ ?_⟩
   ·first|(refine (decide_eq_true ?_).symm;simp_all;done)|(refine (decide_eq_false ?_).symm;simp_all;done)|(refine (decide_eq_true (.inr (.inl ?_))).symm;omega)|(by_cases he:vQ (mZ s (t,j,U,I,H) (x,n,X,O,M) R J)<;>simp_all [Sh.some,mZ];done)|(refine decide_eq_decide.2 ?_;simp_all;done)
   exact SMg
  refine zw rfl (zm rfl (zw rfl ?_));refine WL.call hasF84 rfl rfl (sums_spec21 F (mZ s (t,j,U,I,H) (x,n,X,O,M) R J) _ ⟨b2,b1,d,(by rw[show (mZ s (t,j,U,I,H) (x,n,X,O,M) R J).V.m=val j from rfl,(hV (b7 oA)).1];exact h),(by rw[show (mZ s (t,j,U,I,H) (x,n,X,O,M) R J).Q.m=val n from rfl,(hQ (b0 oA)).1];exact o)⟩ Y (hV (b7 oA)).2 (hQ (b0 oA)).2 (l0.q5 f)) λv w8 h'=>?_;obtain ⟨rfl,C⟩:=h';have r:=r.ta C;have d:=d.q5 C;have h:=h.q5 C;have o:=o.q5 C;refine zw rfl (zT rfl (ze rfl rfl (zm rfl ?_)));refine zb ?_ ?_<;>intro k3<;>try simp only[qs] at k3
  ·refine zv rfl (zv rfl (zv rfl (zu rfl (zu rfl (zu rfl (zv rfl (zt rfl rfl (zz (a6 ?_)))))))));refine ⟨rfl,r,q9.g7 rfl ?_ ?_⟩
   ·first|(refine (decide_eq_true ?_).symm;simp_all;done)|(refine (decide_eq_false ?_).symm;simp_all;done)|(refine (decide_eq_true (.inr (.inl ?_))).symm;omega)|(by_cases he:vQ (mZ s (t,j,U,I,H) (x,n,X,O,M) R J)<;>simp_all [Sh.some,mZ];done)|(refine decide_eq_decide.2 ?_;simp_all;done)
   exact SMg
  refine zw rfl (zm rfl (zw rfl ?_));refine WL.call hasF47 rfl rfl (dax F s _ _ _ _ _ _ _ _ _ d Y) λv w9 h'=>?_;obtain ⟨rfl,C⟩:=h';have r:=r.ta C;have d:=d.q5 C;have h:=h.q5 C;have o:=o.q5 C;refine zw rfl (zm rfl ?_);refine zb ?_ ?_<;>intro k2<;>try simp only[qs] at k2
  ·refine zw rfl (zm rfl (zw rfl ?_));refine WL.call hasF85 rfl rfl (ends_spec21 F (mZ s (t,j,U,I,H) (x,n,X,O,M) R J) _ ⟨b2,b1,d,(by rw[show (mZ s (t,j,U,I,H) (x,n,X,O,M) R J).V.m=val j from rfl,(hV (b7 oA)).1];exact h),(by rw[show (mZ s (t,j,U,I,H) (x,n,X,O,M) R J).Q.m=val n from rfl,(hQ (b0 oA)).1];exact o)⟩ Y b5 b6) λv o3 h'=>?_
   obtain ⟨rfl,C⟩:=h';have r:=r.ta C;refine zw rfl (zT rfl (zw rfl (zt rfl rfl (ze rfl rfl (zz (a6 ?_))))));refine ⟨rfl,r,q9.g7 rfl ?_ ?_⟩
   ·first|(refine (decide_eq_true ?_).symm;simp_all;done)|(refine (decide_eq_false ?_).symm;simp_all;done)|(refine (decide_eq_true (.inr (.inl ?_))).symm;omega)|(by_cases he:vQ (mZ s (t,j,U,I,H) (x,n,X,O,M) R J)<;>simp_all [Sh.some,mZ];done)|(refine decide_eq_decide.2 ?_;simp_all;done)
   exact SMg
  refine zv rfl (zv rfl (zv rfl (zw rfl (ze rfl rfl (ze rfl rfl (zz (a6 ?_)))))));refine ⟨rfl,r,q9.g7 rfl ?_ ?_⟩
  ·first|(refine (decide_eq_true ?_).symm;simp_all;done)|(refine (decide_eq_false ?_).symm;simp_all;done)|(refine (decide_eq_true (.inr (.inl ?_))).symm;omega)|(by_cases he:vQ (mZ s (t,j,U,I,H) (x,n,X,O,M) R J)<;>simp_all [Sh.some,mZ];done)|(refine decide_eq_decide.2 ?_;simp_all;done)
  exact SMg
 intro wM r;have f:=f.ta r;have d:=d.q5 r;have h:=h.q5 r;have o:=o.q5 r;refine zy rfl (λd2=>?_) λd2=>?_
 ·skip;have h3:bd=true\/0<B.length-q\/¬rJ (mZ s (t,j,U,I,H) (x,n,X,O,M) R J)\/((mZ s (t,j,U,I,H) (x,n,X,O,M) R J).some/\¬vQ (mZ s (t,j,U,I,H) (x,n,X,O,M) R J)):=of_decide_eq_true d2;refine Sr λ_ f0=>za rfl (za rfl (zz (f0 ?_)));refine zr (zr2 rfl rfl rfl ?_);refine ⟨.inr ⟨?_,rfl⟩,f⟩;rw[g5];exact if_pos h3
 skip;have h3 : ¬(bd=true\/0<B.length-q\/¬rJ (mZ s (t,j,U,I,H) (x,n,X,O,M) R J)\/((mZ s (t,j,U,I,H) (x,n,X,O,M) R J).some/\¬vQ (mZ s (t,j,U,I,H) (x,n,X,O,M) R J))):=of_decide_eq_false d2;have c4:bd=false:=Bool.eq_false_iff.2 (λz=>h3 (.inl z));refine zkk (f1 (Sr λ_ e9=>zm rfl (za rfl (za rfl (zz (e9 ?_))))));refine zr (zr2 rfl rfl rfl ?_);refine ⟨.inl ⟨(mZ s (t,j,U,I,H) (x,n,X,O,M) R J),F,?_,rfl,⟨b2,b1,d,(by rw[show (mZ s (t,j,U,I,H) (x,n,X,O,M) R J).V.m=val j from rfl,(hV (b7 c4)).1];exact h),(by rw[show (mZ s (t,j,U,I,H) (x,n,X,O,M) R J).Q.m=val n from rfl,(hQ (b0 c4)).1];exact o)⟩,by omega,⟨Y,(hV (b7 c4)).2,(hQ (b0 c4)).2,b5,b6⟩⟩,f⟩;rw[g5];exact if_neg h3
def rdRec(bs:List Nat):Nat×List Nat×List Nat:=
  if bs.getD 0 0<1\/64<bs.getD 0 0 then (1,[],[]) else if bs.length<4+bs.getD 0 0 then (2,[],[]) else
  if bs.length<4+bs.getD 0 0+leV ((bs.drop (1+bs.getD 0 0)).take 3)+4 then (2,[],[]) else
  if (bs.drop (4+bs.getD 0 0+leV ((bs.drop (1+bs.getD 0 0)).take 3))).take 4≠leB (fnv (bs.take (4+bs.getD 0 0+leV ((bs.drop (1+bs.getD 0 0)).take 3)))) 4 then (3,[],[]) else
  if akj ((bs.drop (4+bs.getD 0 0)).take (leV ((bs.drop (1+bs.getD 0 0)).take 3)))=none then (4,[],[]) else (0,(bs.drop 1).take (bs.getD 0 0),(bs.drop (4+bs.getD 0 0)).take (leV ((bs.drop (1+bs.getD 0 0)).take 3)))
structure GE(w:World)(ev:Nat->Value):Prop where
  a:w.cell? ⟨2,0,none⟩=some (ev 1)
  b:w.cell? ⟨3,0,none⟩=some (ev 2)
  c:w.cell? ⟨4,0,none⟩=some (ev 3)
  d:w.cell? ⟨5,0,none⟩=some (ev 4)
namespace Sx
section
variable {P:Program} {s:Sl} {w:World} {ty:TypeId} {x:Operand}
section
variable {P:Program} {ops:Array Oper} {K:KK} {fuel:Nat} {listed:Array Bool} {n:Nat} {D:List Deferred} {s:Sl} {w:World} {ty:TypeId} {pos:String} {af:Array Edge}
end
end
end Sx
end
namespace Sx
open Go
abbrev RO(r:Option Nat):Fence:={ Fence.wide with round:=r }
def noDef(l:List Oper):Bool:=l.all λo=>match o.op with
  | .defer _=>false
  | _=>true
section
variable {P:Program} {r:Option Nat} {m:Nat}
def CWI(r:Option Nat)(P:Program)(c:Code)(A:AQ)(n:Nat)(D:List Deferred)(s:Sl)(w:World):Prop:=∀ a,Fr n D s a->c.wpIn (RO r) 3 P (d6x n A) a w
def WLI(r:Option Nat)(P:Program)(ops:Array Oper)(K:KK)(l:List Oper)(n:Nat)(D:List Deferred)(s:Sl)(w:World):Prop:=∀ a,Fr n D s a->wpListIn (RO r) 3 P ops (post n K) l a w
variable {A:AQ} {n:Nat} {D:List Deferred} {s:Sl} {w:World} {ops:Array Oper} {K:KK}
variable {rest:List Oper} {ty:TypeId} {pos:String} {af:Array Edge} {d:Nat}
structure LoopAt(n:Nat)(s:Sl)(ps:Array Tmp)(assign body:Code)(st:LoopState)(pend:Option Code)(l k:Nat)(w:World):Prop where
  rec_ : ∃ x:Loop,w.heap[l]?=some (.loop x)/\x.state=st/\x.pending=pend/\x.params=ps/\x.assign=assign/\x.body=body/\Fr n [] s { tmps:=x.tmps,defers:=[] }
  dfr:w.heap[k]?=some (.deferred (some []))
variable {ps:Array Tmp} {assign body:Code} {st:LoopState} {pend:Option Code} {l k:Nat}
abbrev mk_(k:Nat):Deferred:={ target:=.collected k,args:=#[] }
def bodyM(P:Program)(fn:Func)(n:Nat)(R:Value->World->Prop):AQ
  | .normal,D,s,w | .ret,D,s,w=>(D=[]/\∃ v,ResS P fn n D s w v/\R v w)\/(∃ k,D=[mk_ k]/\w.heap[k]?=some (.deferred (some []))/\∀ w',Chg [k] w w'->∃ v,ResS P fn n D s w' v/\R v w')
  | _,_,_,_=>False
end
end Sx
section
open Go Sx Wd Fl
namespace Sx
section
variable {P:Program} {s:Sl} {w:World} {ty:TypeId} {x:Operand}
end
end Sx
def evV(ea:Nat->Addr)(c:Nat):Value:=.iface 331 (.pointer (some (ea c)))
inductive Wk (bs:List Nat):List (ByteArray×List Nat)->Nat->Prop
  | nil:Wk bs [] 0
  | step {R:List (ByteArray×List Nat)} {p:Nat} {nm dat:List Nat} : Wk bs R p->p<bs.length->rdRec (bs.drop p)=(0,nm,dat)->Wk bs (R++[(bA nm,dat)]) (p+(8+nm.length+dat.length))
end
section
open Go Sx Wd Fl
def NoC(w:World)(k:Nat):Prop:=∀ c e z,w.heap[k]?≠some (.cells c e z)
section
variable {w w':World} {k:Nat}
end
namespace Sx
section
variable {P:Program} {n:Nat} {D:List Deferred} {s:Sl} {w:World} {ty:TypeId} {x:Operand} {fn:Func} {R:Value->World->Prop}
end
end Sx
end
section
open Go Sx Wd Fl
def tellG(G:List RG):List (ByteArray×List Nat):=G.map λg=>(g.1,g.2.1)
structure RepJ(w:World)(bl b2 b3 b4 b5 cb m cl:Nat)(al:Option Addr)(LA:LoopState->Option Code->World->Prop)(R:List (ByteArray×List Nat))(p:Nat)(W:World):Prop where
  ex : ∃ G,tellG G=R/\LgM w.heap.size W bl G/\totG G=p
  la:LA .ready none W
  h2:BK W b2 46 [.pointer none]
  h3:BK W b3 3 [.int .i64 0]
  h4:BK W b4 47 [.int .i64 0]
  h5:BK W b5 46 [.pointer (some ⟨bl,0,none⟩)]
  hc:BK W cb 35 [.slice al m cl]
  ch:Chg [] w W
structure RepE(lo bl k:Nat)(G:List RG)(w:World):Prop where
  lg:LgM lo w bl G
  kd:w.heap[k]?=some (.deferred (some []))
namespace Sx
end Sx
theorem ShM.q8{T T':TypeId}{w w':World}{b c:Nat}{S:Sh}{cs:List Value}(h:ShM T w b S)(g:BK w c T' cs)(f:Chg [c] w w')(i : ∀ x∈cs,abq x=false)(d:T≠T':=by decide):ShM T w' b S:=by
  obtain ⟨j,k,a,m,l⟩:=h
  refine ⟨j,k,a.gZ f (λe=>?_),m.q8 g f i,l.q8 g f i⟩
  have e:=List.mem_singleton.1 e
  subst e
  have:=a.symm.trans g
  simp at this
  exact d this.2
end
section
open Go Sx Wd Fl
theorem one_al(x:Nat):(Sh.one x).s.al=1:=rfl
set_option exponentiation.threshold 9000
def abx(j:Nat)(L:List Nat):Nat:=(L.filter λx=>k7 x==j).length
theorem alx(j:Nat)(L:List Nat)(x:Nat):abx j (x::L)=(if k7 x=j then 1 else 0)+abx j L:=by
  unfold abx
  by_cases h:k7 x=j
  · simp[h];omega
  · simp[h]
theorem cntK_pos{j:Nat}{L:List Nat}: 0<abx j L↔∃ y∈L,k7 y=j:=by
  unfold abx
  rw[List.length_pos_iff_exists_mem]
  constructor
  · rintro ⟨y,a⟩
    rw[List.mem_filter] at a
    exact ⟨y,a.1,by simpa using a.2⟩
  · rintro ⟨y,a,b⟩
    exact ⟨y,List.mem_filter.2 ⟨a,by simpa using b⟩⟩
theorem dsq(L:List Nat):abx 0 L+abx 1 L+abx 2 L+abx 3 L+abx 4 L+abx 5 L=L.length:=by
  induction L with
  | nil=>rfl
  | cons x L ih=>
    rw[alx,alx,alx,alx,alx,alx,List.length_cons]
    have:=b6q x
    have h:k7 x=0\/k7 x=1\/k7 x=2\/k7 x=3\/k7 x=4\/k7 x=5:=by omega
    rcases h with h|h|h|h|h|h<;>rw[h]<;>simp<;>omega
theorem aeq{x:Nat}(a:x<18446744073709551616):isNaN x=true↔k7 x=5:=by
  rw[uZ a]
  unfold isNaN
  rw[decide_eq_true_eq]
  constructor
  · intro h;rw[if_pos h]
  · intro h
    apply Classical.byContradiction
    intro q
    rw[if_neg q] at h
    split at h
    · omega
    split at h
    · omega
    split at h
    · omega
    split at h<;>omega
theorem c6q{x:Nat}(f:x<18446744073709551616):fvI x≠0↔k7 x=0:=by
  have g:=uZ f
  by_cases hc:(j0 x).cls<=2
  · rw[ne_eq,fvI_nought hc f]
    have e:=b0x.2 hc
    rw[g] at e ⊢
    by_cases a:9218868437227405312<x%9223372036854775808
    · rw[if_pos a] at e;omega
    rw[if_neg a] at e ⊢
    by_cases b:x%9223372036854775808=9218868437227405312/\x/9223372036854775808=1
    · rw[if_pos b] at e;omega
    rw[if_neg b] at e ⊢
    by_cases c:x%9223372036854775808=9218868437227405312
    · rw[if_pos c] at e;omega
    rw[if_neg c]
    by_cases d:x%9223372036854775808=0
    · rw[if_pos d]
      split<;>simp[d]
    · rw[if_neg (λq=>d q.1),if_neg d];simp[d]
  · have e : ¬k7 x<=2:=λq=>hc (b0x.1 q)
    rw[cnq (λq=>hc oO)]
    constructor
    · intro h;exact absurd rfl h
    · intro h;omega
def sqI(x:Nat):Int:=if k7 x=0 then thv (dkx x x) else 0
theorem dpx{x:Nat}(h:k7 x=0):(j0 x).cls<=2:=b0x.1 oO
theorem sq_mul{x:Nat}(a:x<18446744073709551616):sqI x*(2^2148:Nat)=fvI x*fvI x:=by
  unfold sqI
  by_cases h:k7 x=0
  · rw[if_pos h];exact c8q (dpx h) (dpx h)
  · have b:fvI x=0:=Classical.byContradiction λq=>h ((c6q a).1 q)
    rw[if_neg h,b,Int.zero_mul,Int.zero_mul]
theorem a4x(a:Int):0<=a*a:=by
  rcases Int.le_total 0 a with h|h
  · exact Int.mul_nonneg h h
  · exact Int.mul_nonneg_of_nonpos_of_nonpos h h
theorem sq_pos{x:Nat}(b:x<18446744073709551616):0<=sqI x/\(k7 x=0->0<sqI x):=by
  have h:=sq_mul b
  have g:=a4x (fvI x)
  have c:(0:Int)<((2^2148:Nat):Int):=by have:=Nat.two_pow_pos 2148;omega
  constructor
  · apply Classical.byContradiction
    intro q
    have:=Int.mul_neg_of_neg_of_pos (show sqI x<0 by omega) c
    omega
  · intro d
    apply Classical.byContradiction
    intro q
    have f:=(c6q b).2 d
    have a:fvI x*fvI x≠0:=λe=>by rcases Int.mul_eq_zero.1 e with e|e<;>exact f e
    rcases Int.lt_or_eq_of_le (show sqI x<=0 by omega) with e|e
    · have:=Int.mul_neg_of_neg_of_pos e c
      omega
    · rw[e,Int.zero_mul] at h;exact a h.symm
theorem sq_lt{x:Nat}(a:x<18446744073709551616):sqI x<((2^4196:Nat):Int):=by
  have b:=Nat.two_pow_pos 4196
  unfold sqI
  by_cases h:k7 x=0
  · rw[if_pos h]
    have:=cyx (dpx h) (dpx h)
    omega
  · rw[if_neg h];omega
def sqS(L:List Nat):Int:=(L.map sqI).sum
theorem sq_bounds{L:List Nat}(n : ∀ x∈L,x<18446744073709551616):0<=sqS L/\(0<abx 0 L->0<sqS L)/\(abx 0 L=0->sqS L=0/\axq L=0)/\(0<abx 0 L->sqS L<(abx 0 L:Int)*((2^4196:Nat):Int))/\axq L*axq L<=(abx 0 L:Int)*(sqS L*((2^2148:Nat):Int)):=by
  induction L with
  | nil=>exact ⟨Int.le_refl _,λh=>absurd h oD,λ_=>⟨rfl,rfl⟩,λh=>absurd h oD,by simp[axq,sqS,abx]⟩
  | cons x L ih=>
    obtain ⟨m,u,l,j,i⟩:=ih λy hy=>n y (List.mem_cons_of_mem _ hy)
    have c:=n x (List.mem_cons_self ..)
    obtain ⟨J,t⟩:=sq_pos c
    have z:=sq_lt c
    have w:=sq_mul c
    have F:sqS (x::L)=sqI x+sqS L:=by simp[sqS]
    have eA:axq (x::L)=fvI x+axq L:=by simp[axq]
    rw[F,eA,alx]
    generalize hM:((2^4196:Nat):Int)=M at *
    generalize hT:((2^2148:Nat):Int)=T at *
    generalize hA:axq L=A at *
    generalize hQ:sqS L=Q at *
    generalize ha:fvI x=a at *
    generalize hq:sqI x=q at *
    by_cases hk:k7 x=0
    · rw[if_pos hk]
      have b:=t hk
      refine ⟨by omega,λ_=>by omega,λh=>by omega,λ_=>?_,?_⟩
      · push_cast
        rw[Int.add_mul,Int.one_mul]
        by_cases hc:abx 0 L=0
        · have:=(l hc).1
          rw[hc];simp;omega
        · have:=j oO
          omega
      · -- (a+A)^2 <= (1+k)(q+Q)T,with A^2 <= k Q T and q T=a^2
        push_cast
        generalize hkk:((abx 0 L:Nat):Int)=k at *
        have B:0<=k:=by omega
        have C:0<=Q*T:=Int.mul_nonneg m (by rw[<- hT];omega)
        generalize hz:Q*T=Z at *
        have d:(q+Q)*T=a*a+Z:=by rw[Int.add_mul,w,hz]
        rw[d]
        by_cases hk1:k=0
        · rw[hk1,Int.zero_mul] at i
          have g:A=0:=Classical.byContradiction λe=>by
            have:0<A*A:=by
              have D:=a4x A
              rcases Int.lt_or_eq_of_le D with h|h
              · exact h
              · rcases Int.mul_eq_zero.1 h.symm with h|h<;>exact absurd h e
            omega
          rw[g,hk1]
          simp only[Int.add_zero,Int.one_mul]
          omega
        · have v:=a4x (k*a-A)
          have I:(k*a-A)*(k*a-A)=k*(k*(a*a))-2*(k*(a*A))+A*A:=by
            rw[Int.sub_mul,Int.mul_sub,Int.mul_sub]
            have s:k*a*(k*a)=k*(k*(a*a)):=by rw[Int.mul_assoc,Int.mul_left_comm a k a]
            have r:A*(k*a)=k*(a*A):=by rw[Int.mul_left_comm,Int.mul_comm A a]
            have p:k*a*A=k*(a*A):=Int.mul_assoc ..
            rw[s,r,p];omega
          rw[I] at v
          have R:0<=k*(k*(a*a)-2*(a*A)+Z):=by
            have:k*(k*(a*a)-2*(a*A)+Z)=k*(k*(a*a))-2*(k*(a*A))+k*Z:=by
              rw[Int.mul_add,Int.mul_sub,Int.mul_left_comm k 2]
            rw[this];omega
          have O:0<=k*(a*a)-2*(a*A)+Z:=by
            apply Classical.byContradiction
            intro o
            have:=Int.mul_neg_of_pos_of_neg (show 0<k by omega) (show k*(a*a)-2*(a*A)+Z<0 by omega)
            omega
          have H:(a+A)*(a+A)=a*a+2*(a*A)+A*A:=by
            rw[Int.add_mul,Int.mul_add,Int.mul_add,Int.mul_comm A a];omega
          have G:(1+k)*(a*a+Z)=a*a+Z+(k*(a*a)+k*Z):=by rw[Int.add_mul,Int.one_mul,Int.mul_add]
          rw[H,G]
          omega
    · rw[if_neg hk]
      have f:a=0:=Classical.byContradiction λh=>hk ((c6q c).1 (by rw[ha];exact h))
      have b:q=0:=by rw[<- hq];unfold sqI;rw[if_neg hk]
      rw[f,b,Nat.zero_add,Int.zero_add,Int.zero_add]
      exact ⟨m,u,l,j,i⟩
theorem pow4236 : ∀ a,a=4196->(2:Nat)^(a+42)=4398046511104*2^a:=by
  intro a _;rw[Nat.pow_add,Nat.mul_comm]
end
section
open Go Sx Wd Fl
structure Mk(S:Sh)(L:List Nat):Prop where
  w : ∀ x∈L,x<18446744073709551616
  n:L.length<=1099511627776
  s:S.s=⟨abx 5 L,abx 3 L,abx 4 L,abx 1 L,abx 2 L,L.length⟩
  V:S.V=dJ (axq L)
  Q:S.Q=dJ (sqS L)
  e:abx 5 L=L.length\/(S.lo∈L/\k7 S.lo≠5/\S.hi∈L/\k7 S.hi≠5/\∀ y∈L,k7 y≠5->key S.lo<=key y/\key y<=key S.hi)
theorem Mk.some_iff{S:Sh}{L:List Nat}(h:Mk S L):S.some↔abx 5 L<L.length:=by
  unfold Sh.some;rw[h.s]
theorem Mk.zero:Mk Sh.zero []:=⟨λx hx=>(by cases hx),oD,rfl,rfl,rfl,.inl rfl⟩
theorem Mk.one{x:Nat}(c:x<18446744073709551616):Mk (Sh.one x) [x]:=by
  refine ⟨λy b=>by rw[List.mem_singleton.1 b];exact c,by simp,?_,?_,?_,?_⟩
  · show countP SP.zero (k7 x)=_
    have e : ∀ j,abx j [x]=if k7 x=j then 1 else 0:=λj=>by rw[alx];rfl
    rw[e,e,e,e,e]
    unfold countP SP.zero
    simp
  · show fdy x=_
    have e:axq [x]=fvI x:=by simp[axq]
    rw[e]
    unfold fdy
    split
    · rfl
    · rename_i a;rw[cnq (λq=>a oO)];rfl
  · show (fJ (fdy x) (fdy x)).getD Dy.zero=_
    have e:sqS [x]=sqI x:=by simp[sqS]
    rw[e]
    unfold sqI fdy
    by_cases hk:k7 x=0
    · have a:=dpx hk
      rw[if_pos a,if_pos hk,mulD_sum a a];rfl
    · have g:fvI x=0:=Classical.byContradiction λq=>hk ((c6q c).1 q)
      rw[if_neg hk,g]
      have : ∀ d,d=Dy.zero->(fJ d d).getD Dy.zero=dJ 0:=λd f=>by subst f;unfold fJ;rw[show Dy.zero.m*Dy.zero.m=0 from rfl,jJ];split<;>rfl
      refine this _ ?_
      split<;>rfl
  · by_cases hk:k7 x=5
    · exact .inl (by rw[alx,if_pos hk];rfl)
    · exact .inr ⟨List.mem_singleton.2 rfl,hk,List.mem_singleton.2 rfl,hk,λy b _=>by rw[List.mem_singleton.1 b];exact ⟨Int.le_refl _,Int.le_refl _⟩⟩
def Sh.noE(S:Sh):Prop:=¬S.some->S.lo=0/\S.hi=0
set_option exponentiation.threshold 9000
theorem kd{x:Nat}(a:x<18446744073709551616):(k7 x=5↔9218868437227405312<x%9223372036854775808)/\(k7 x=4↔x=18442240474082181120)/\(k7 x=3↔x=9218868437227405312)/\(k7 x=1↔x=9223372036854775808)/\(k7 x=2↔x=0):=by
  rw[uZ a]
  refine ⟨?_,?_,?_,?_,?_⟩<;>(repeat' split)<;>constructor<;>intro h<;>omega
theorem key5{x:Nat}(a:x<18446744073709551616)(h:k7 x≠5):isNaN x=false/\x%9223372036854775808<=9218868437227405312/\key x=if 9223372036854775808<=x then -1-((x:Int)-9223372036854775808) else x:=by
  have b:isNaN x=false:=by
    cases q:isNaN x with
    | false=>rfl
    | true=>exact absurd ((aeq a).1 q) h
  refine ⟨b,?_,?_⟩
  · have:=(kd a).1
    omega
  · unfold key;rw[b];simp
theorem d5q(x y:Dy):fJ x y=fJ y x:=by
  unfold fJ
  rw[Nat.mul_comm x.m y.m,Int.add_comm x.e y.e]
  have:(x.neg != y.neg)=(y.neg != x.neg):=by cases x.neg<;>cases y.neg<;>rfl
  rw[this]
theorem wlenB{n k:Nat}(h : ∀ c,c=32*k->n<2^c):(wd n).length<=k:=aQ.2 (h _ rfl)
theorem cmq{x y:Dy}(h:x.m%2=1)(g:y.m%2=1)(j:x.m<2^4300)(i:y.m<2^4300)(o : -100000<=x.e/\x.e<=100000)(n : -100000<=y.e/\y.e<=100000):fJ x y=some ⟨x.neg != y.neg,x.m*y.m,x.e+y.e⟩:=by
  have b:x.m*y.m%2=1:=by rw[Nat.mul_mod,h,g]
  have k:x.m*y.m≠0:=λe=>by rw[e] at b;cases b
  have d:=cdj b
  have f:(wd (x.m*y.m)).length<=8192:=wlenB λc l=>by
    have a:x.m*y.m<2^4300*2^4300:=Nat.mul_lt_mul'' j i
    rw[<- Nat.pow_add] at a
    exact Nat.lt_of_lt_of_le a (Nat.pow_le_pow_right oO oO)
  unfold fJ
  rw[if_neg oO,sZ k (by rw[d];rw[Nat.pow_zero,Nat.div_one];omega),d,Nat.pow_zero,Nat.div_one]
  simp
theorem sgn_le0{a b:Nat}(h:a<=b):sgn a b<=0:=by
  unfold sgn
  repeat' split
  all_goals omega
theorem b3j{S:Int}(h:InB S)(g:S≠0): ∃ a:Nat,S.natAbs=(dJ S).m*2^a/\(dJ S).e = -2148+(a:Int)/\(dJ S).neg=decide (S<0)/\(dJ S).m%2=1/\(dJ S).m<2^4238/\a<4238:=by
  obtain ⟨a,d,n,l⟩:=b3q h g
  have b:=a1x h
  have j:(dJ S).m≠0:=λe=>g ((bkq h).1 e)
  have f:=h.lt
  have i:=Nat.two_pow_pos a
  have c:(dJ S).m<=S.natAbs:=by rw[d];exact Nat.le_mul_of_pos_right _ i
  refine ⟨a,d,n,l,b.odd j,Nat.lt_of_le_of_lt c f,?_⟩
  have k:2^a<=S.natAbs:=by rw[d];exact Nat.le_mul_of_pos_left _ oO
  exact (Nat.pow_lt_pow_iff_right oO).1 (Nat.lt_of_le_of_lt k f)
theorem Mk.fin{S:Sh}{L:List Nat}(h:Mk S L):S.fin=(abx 0 L:Int)+abx 1 L+abx 2 L/\S.pln=abx 0 L:=by
  have a:=dsq L
  unfold Sh.pln Sh.fin
  rw[h.s]
  dsimp only
  omega
theorem ex_of{S:Int}(h:InB S):(-4096<=(dJ S).e/\(dJ S).e<=61439)/\(wd (dJ S).m).length<=160:=by
  by_cases h0:S=0
  · subst h0
    rw[d1j]
    exact ⟨by decide,by show (wd 0).length<=160;rw[eJ];decide⟩
  · obtain ⟨a,i,g,f,d,b,c⟩:=b3j h h0
    refine ⟨by omega,aQ.2 (Nat.lt_of_lt_of_le b (Nat.pow_le_pow_right oO oO))⟩
theorem lo_end{lo n c c1 c2 k e F:Nat}{j:Int}(I:lo<18446744073709551616)(O:lo%9223372036854775808<=9218868437227405312)(m:key lo=if 9223372036854775808<=lo then -1-((lo:Int)-9223372036854775808) else lo)
    (J:(k7 lo=5↔9218868437227405312<lo%9223372036854775808)/\(k7 lo=4↔lo=18442240474082181120)/\(k7 lo=3↔lo=9218868437227405312)/\(k7 lo=1↔lo=9223372036854775808)/\(k7 lo=2↔lo=0)) (M:k7 lo<=5) (V:k7 lo≠5)
    (k0:k7 lo=0->0<c) (T:k7 lo=1->0<c1) (R:k7 lo=2->0<c2) (C:k7 lo=3->0<k) (Q:k7 lo=4->0<e) (U:c+c1+c2+k+e+F=n)
    (p:0<c1->∃ y,k7 y=1/\y<18446744073709551616/\y%9223372036854775808<=9218868437227405312/\key lo<=key y/\key y<=j/\key y=(if 9223372036854775808<=y then -1-((y:Int)-9223372036854775808) else y)) (o:0<e->∃ y,k7 y=4/\y<18446744073709551616/\y%9223372036854775808<=9218868437227405312/\key lo<=key y/\key y<=j/\key y=(if 9223372036854775808<=y then -1-((y:Int)-9223372036854775808) else y))
    (r:0<(c:Int)+c1+c2->∃ y,y<18446744073709551616/\y%9223372036854775808<9218868437227405312/\key lo<=key y/\key y<=j/\key y=(if 9223372036854775808<=y then -1-((y:Int)-9223372036854775808) else y)) :
    if 0<e then kJ lo (-1) else if (c:Int)+c1+c2=0 then 0<k/\kJ lo (- -1) else if kJ lo 0 then False else if (0:Int)<c then True else lo%9223372036854775808=0/\(9223372036854775808<=lo↔((-1:Int)<0↔0<c1)):=by
  rw[m] at p o r
  generalize k7 lo=kl at *
  clear m
  by_cases q4:0<e
  · rw[if_pos q4]
    obtain ⟨y,B,l,A,a,x,g⟩:=o q4
    have w:=(kd l).2.1.1 B
    unfold kJ
    rw[if_neg oO,if_pos oO]
    rw[g,w] at a
    simp at a
    split at a<;>omega
  · rw[if_neg q4]
    by_cases qf:(c:Int)+c1+c2=0
    · rw[if_pos qf]
      have i:kl=3:=by omega
      refine ⟨C i,?_⟩
      unfold kJ
      rw[if_neg oO,if_neg oO]
      omega
    · rw[if_neg qf]
      obtain ⟨y,l,A,a,x,g⟩:=r oO
      have d : ¬lo%9223372036854775808=9218868437227405312:=by
        intro q
        rw[g] at a
        split at a<;>split at a<;>omega
      have b : ¬kJ lo 0:=by unfold kJ;rw[if_pos rfl];exact d
      rw[if_neg b]
      by_cases qp:(0:Int)<c
      · rw[if_pos qp];trivial
      · rw[if_neg qp]
        by_cases q1:0<c1
        · obtain ⟨z,v,u,H,f,G,t⟩:=p q1
          have s:=(kd u).2.2.2.1.1 v
          rw[t,s] at f
          simp at f
          have D:9223372036854775808<=lo:=by
            split at f<;>omega
          refine ⟨by omega,?_⟩
          simp[q1,D]
        · have h:lo=0:=by omega
          rw[h]
          simp[q1]
theorem hi_end{a n d c1 c2 f k F:Nat}{lo:Int}(I:a<18446744073709551616)(O:a%9223372036854775808<=9218868437227405312)(m:key a=if 9223372036854775808<=a then -1-((a:Int)-9223372036854775808) else a)
    (J:(k7 a=5↔9218868437227405312<a%9223372036854775808)/\(k7 a=4↔a=18442240474082181120)/\(k7 a=3↔a=9218868437227405312)/\(k7 a=1↔a=9223372036854775808)/\(k7 a=2↔a=0)) (M:k7 a<=5) (V:k7 a≠5)
    (k0:k7 a=0->0<d) (T:k7 a=1->0<c1) (R:k7 a=2->0<c2) (Q:k7 a=3->0<f) (C:k7 a=4->0<k) (U:d+c1+c2+f+k+F=n)
    (p:0<c2->∃ y,k7 y=2/\y<18446744073709551616/\y%9223372036854775808<=9218868437227405312/\lo<=key y/\key y<=key a/\key y=(if 9223372036854775808<=y then -1-((y:Int)-9223372036854775808) else y)) (o:0<f->∃ y,k7 y=3/\y<18446744073709551616/\y%9223372036854775808<=9218868437227405312/\lo<=key y/\key y<=key a/\key y=(if 9223372036854775808<=y then -1-((y:Int)-9223372036854775808) else y))
    (r:0<(d:Int)+c1+c2->∃ y,y<18446744073709551616/\y%9223372036854775808<9218868437227405312/\lo<=key y/\key y<=key a/\key y=(if 9223372036854775808<=y then -1-((y:Int)-9223372036854775808) else y)) :
    if 0<f then kJ a 1 else if (d:Int)+c1+c2=0 then 0<k/\kJ a (-1) else if kJ a 0 then False else if (0:Int)<d then True else a%9223372036854775808=0/\(9223372036854775808<=a↔((1:Int)<0↔0<c2)):=by
  rw[m] at p o r
  generalize k7 a=kl at *
  clear m
  by_cases q4:0<f
  · rw[if_pos q4]
    obtain ⟨y,B,l,A,x,b,h⟩:=o q4
    have w:=(kd l).2.2.1.1 B
    unfold kJ
    rw[if_neg oO,if_neg oO]
    rw[h,w] at b
    simp at b
    split at b<;>omega
  · rw[if_neg q4]
    by_cases qf:(d:Int)+c1+c2=0
    · rw[if_pos qf]
      have j:kl=4:=by omega
      refine ⟨C j,?_⟩
      unfold kJ
      rw[if_neg oO,if_pos oO]
      omega
    · rw[if_neg qf]
      obtain ⟨y,l,A,x,b,h⟩:=r oO
      have e : ¬a%9223372036854775808=9218868437227405312:=by
        intro q
        rw[h] at b
        split at b<;>split at b<;>omega
      have c : ¬kJ a 0:=by unfold kJ;rw[if_pos rfl];exact e
      rw[if_neg c]
      by_cases qp:(0:Int)<d
      · rw[if_pos qp];trivial
      · rw[if_neg qp]
        by_cases q1:0<c2
        · obtain ⟨z,v,u,H,G,g,t⟩:=p q1
          have s:=(kd u).2.2.2.2.1 v
          rw[t,s] at g
          simp at g
          have D : ¬9223372036854775808<=a:=by
            split at g<;>omega
          refine ⟨by omega,?_⟩
          simp[q1,D]
        · have i:a=9223372036854775808:=by omega
          rw[i]
          simp[q1]
theorem Mk.ends{S:Sh}{L:List Nat}(h:Mk S L)(hs:S.some):vQ S:=by
  have M:=dsq L
  have b6:=h.some_iff.1 hs
  obtain ⟨m,O⟩:=h.fin
  rcases h.e with he|⟨n,Q,l,D,C⟩
  · omega
  obtain ⟨l1,l2,l3⟩:=key5 (h.w _ n) Q
  obtain ⟨u1,u2,Z⟩:=key5 (h.w _ l) D
  have lk:=kd (h.w _ n)
  have X:=kd (h.w _ l)
  have lw:=h.w _ n
  have V:=h.w _ l
  have lu:=C _ l D
  have k : ∀ j,0<abx j L->∃ y∈L,k7 y=j:=λj=>cntK_pos.1
  have g : ∀ y∈L,0<abx (k7 y) L:=λy i=>cntK_pos.2 ⟨y,i,rfl⟩
  have H:=g _ n
  have G:=g _ l
  have l5:=b6q S.lo
  have Y:=b6q S.hi
  have a : ∀ j,j≠5->0<abx j L->∃ y,k7 y=j/\y<18446744073709551616/\y%9223372036854775808<=9218868437227405312/\key S.lo<=key y/\key y<=key S.hi/\key y=(if 9223372036854775808<=y then -1-((y:Int)-9223372036854775808) else y):=λj J B=>by
    obtain ⟨y,i,I⟩:=k j B
    have f:k7 y≠5:=by rw[I];exact J
    obtain ⟨b1,b2,b3⟩:=key5 (h.w _ i) f
    exact ⟨y,I,h.w _ i,b2,(C y i f).1,(C y i f).2,b3⟩
  have b:0<S.fin->∃ y,y<18446744073709551616/\y%9223372036854775808<9218868437227405312/\key S.lo<=key y/\key y<=key S.hi/\key y=(if 9223372036854775808<=y then -1-((y:Int)-9223372036854775808) else y):=λhf=>by
    have : ∃ j,j<=2/\0<abx j L:=by
      by_cases q0:0<abx 0 L
      · exact ⟨0,by omega,q0⟩
      by_cases q1:0<abx 1 L
      · exact ⟨1,by omega,q1⟩
      · exact ⟨2,by omega,by omega⟩
    obtain ⟨j,J,B⟩:=this
    obtain ⟨y,y1,F,y3,U,T,R⟩:=a j oO B
    have yk:=kd F
    exact ⟨y,F,by omega,U,T,R⟩
  have g1:=a 1 oO
  have g2:=a 2 oO
  have g3:=a 3 oO
  have g4:=a 4 oO
  have d : ∀ j,k7 S.lo=j->0<abx j L:=λj e=>by rw[<- e];exact H
  have c : ∀ j,k7 S.hi=j->0<abx j L:=λj e=>by rw[<- e];exact G
  have A:=d 0
  have z:=d 1
  have x:=d 2
  have v:=d 3
  have u:=d 4
  have t:=c 0
  have r:=c 1
  have q:=c 2
  have p:=c 3
  have o:=c 4
  clear d c H G a g k
  refine ⟨?_,?_,?_⟩
  · rw[l1,u1]
    simp
    omega
  · unfold apj
    rw[m,O,h.s]
    dsimp only
    rw[m] at b
    exact lo_end lw l2 l3 lk l5 Q A z x v u M g1 g4 b
  · unfold apj
    rw[m,O,h.s]
    dsimp only
    rw[m] at b
    exact hi_end V u2 Z X Y D t r q p o M g2 g3 b
end
section
open Go Sx Wd Fl
set_option exponentiation.threshold 9000
theorem sumI_dvd{L:List Nat}(b : ∀ x∈L,x<18446744073709551616): ∀ a,a=1074->∃ z:Int,axq L=z*((2^a:Nat):Int):=by
  intro a g
  induction L with
  | nil=>exact ⟨0,by simp[axq]⟩
  | cons x L ih=>
    obtain ⟨z,c⟩:=ih λy hy=>b y (List.mem_cons_of_mem _ hy)
    have d:=b x (List.mem_cons_self ..)
    have e:axq (x::L)=fvI x+axq L:=by simp[axq]
    obtain ⟨q,f⟩ : ∃ q:Int,fvI x=q*((2^a:Nat):Int):=by
      by_cases hc:(j0 x).cls<=2
      · rw[fvI_nz hc d,g]
        split
        · exact ⟨-(nz (x%9223372036854775808):Int),by rw[Int.natCast_mul,Int.neg_mul]⟩
        · exact ⟨(nz (x%9223372036854775808):Int),by rw[Int.natCast_mul]⟩
      · exact ⟨0,by rw[cnq (λq=>hc oO),Int.zero_mul]⟩
    exact ⟨q+z,by rw[e,c,f,Int.add_mul]⟩
theorem odd_dvd{m a b:Nat}{z:Nat}(h:m*2^a=z*2^b)(c:m%2=1)(f:z≠0):b<=a:=by
  apply Classical.byContradiction
  intro q
  have e:2^b=2^(b-a)*2^a:=by rw[<- Nat.pow_add];congr 1;omega
  rw[e,<- Nat.mul_assoc] at h
  have d:=Nat.eq_of_mul_eq_mul_right (Nat.two_pow_pos a) h
  rw[d,show b-a=(b-a-1)+1 by omega,Nat.pow_succ,<- Nat.mul_assoc,Nat.mul_mod_left] at c
  cases c
theorem sumD_low{S:Int}(h:InB S)(d:S≠0)(f : ∀ a,a=1074->∃ z:Int,S=z*((2^a:Nat):Int)): -1074<=(dJ S).e:=by
  obtain ⟨a,i,m,l,g,k,j⟩:=b3j h d
  obtain ⟨z,c⟩:=f 1074 rfl
  have b:S.natAbs=z.natAbs*2^1074:=by rw[c,Int.natAbs_mul,Int.natAbs_natCast]
  have:=odd_dvd (i.symm.trans b) g (by
    intro e
    have:z=0:=by omega
    rw[this,Int.zero_mul] at c
    exact d c)
  omega
theorem cmpY_sum{S T:Int}(a:InB S)(hT:InB T):cmpY (dJ S) (dJ T)=if S<T then -1 else if T<S then 1 else 0:=cmpD_sum a hT
theorem topD_sum : ∀ a,a=4196->axx=dJ ((2^a:Nat):Int):=by
  intro a c
  have e:(0:Int)<((2^a:Nat):Int):=by have:=Nat.two_pow_pos a;omega
  have b:InB ((2^a:Nat):Int):=by
    subst c
    have h:2^4196<16384*BB:=by rw[b2q];exact Nat.pow_lt_pow_right oD oD
    unfold InB
    omega
  rw[bwj b oO,Int.natAbs_natCast]
  have d:tz (2^a)=a:=by have:=tz_mul 1 a rfl;rwa [Nat.one_mul] at this
  rw[d,Nat.div_self (Nat.two_pow_pos a),decide_eq_false oO]
  subst c
  rfl
theorem cmpV_le{a b A B c:Nat}{e f:Int}(l:e=(A:Int)-c)(k:f=(B:Int)-c)(h:a*2^A<=b*2^B):btx a e b f<=0:=by
  unfold btx
  apply sgn_le0
  have j:min e f+c=((min A B:Nat):Int):=by omega
  have i:(e-min e f).toNat=A-min A B:=by omega
  have g:(f-min e f).toNat=B-min A B:=by omega
  rw[i,g]
  have d:=Nat.two_pow_pos (min A B)
  refine Nat.le_of_mul_le_mul_right (c:=2^min A B) ?_ d
  rw[Nat.mul_assoc,Nat.mul_assoc,<- Nat.pow_add,<- Nat.pow_add,show A-min A B+min A B=A by omega,show B-min A B+min A B=B by omega]
  exact h
theorem sh2(d a t b c:Nat):d*2^t*(a*2^b*2^c)=d*a*2^(t+b+c):=by rw[Nat.pow_add,Nat.pow_add];ac_rfl
end
section
open Go Sx Wd Fl
end
section
open Go Sx Wd
theorem round_unique{x:Option Dy}{mode:Int}{b b':Nat}{e e':Int}(h:cxj x mode b e)(l:cxj x mode b' e'):b=b'/\e=e':=by
  rcases h with ⟨a,j,g⟩|⟨a,h⟩<;>rcases l with ⟨m,i,f⟩|⟨m,l⟩
  · exact ⟨j.trans i.symm,g.trans f.symm⟩
  · exact absurd m a
  · exact absurd a m
  · rcases h with ⟨n,j,g⟩|⟨d,r,k,N,_,j,g⟩<;>rcases l with ⟨o,i,f⟩|⟨s,q,c,p,_,i,f⟩
    · exact ⟨j.trans i.symm,g.trans f.symm⟩
    · rw[n] at c;cases c
    · rw[o] at k;cases k
    · rw[k] at c;cases c
      have:=N.unique (yZ _) p
      subst this
      exact ⟨j.trans i.symm,g.trans f.symm⟩
theorem cjj{S T:Sh}(p:S.s=T.s)(q:S.V=T.V){mode n o:Int}{b b':Nat}{e e':Int}(h:crx S mode n o b e)(c:crx T mode n o b' e'):b=b'/\e=e':=by
  unfold crx at h c
  rw[<- p,<- q] at c
  rcases h with ⟨a,j,g⟩|⟨a,h⟩<;>rcases c with ⟨l,i,f⟩|⟨l,c⟩
  · exact ⟨j.trans i.symm,g.trans f.symm⟩
  · exact absurd l a
  · exact absurd a l
  · rcases h with ⟨x,v,j,g⟩|⟨v,h⟩<;>rcases c with ⟨r,d,i,f⟩|⟨d,c⟩
    · rw[v] at d;cases d;exact ⟨j.trans i.symm,g.trans f.symm⟩
    · rw[v] at d;cases d
    · rw[v] at d;cases d
    · rcases h with ⟨m,j,g⟩|⟨m,h⟩<;>rcases c with ⟨k,i,f⟩|⟨k,c⟩
      · exact ⟨j.trans i.symm,g.trans f.symm⟩
      · exact absurd m k
      · exact absurd k m
      · exact round_unique h c
set_option exponentiation.threshold 300000
theorem wd_1:wd 1=[1]:=by decide +kernel
theorem ok_1:(Dy.mk false 1 0).ok:=⟨λh=>absurd h oD,λ_=>by decide,by show (wd 1).length<=8192;rw[wd_1];decide,by decide⟩
theorem intD_1:cZ 1=⟨false,1,0⟩:=by
  show (cQ false 1 0).getD Dy.zero=_
  rw[mX ok_1]
  rfl
theorem mulD_one{d:Dy}(h:d.ok):fJ (cZ 1) d=some d:=by
  rw[intD_1]
  unfold fJ
  simp only[Nat.one_mul,Int.zero_add]
  rw[if_neg (by have:=h.len;omega)]
  have:(false != d.neg)=d.neg:=by cases d.neg<;>rfl
  rw[this]
  exact mX h
theorem timD_eq{x y:Dy}(h:x.ok):timD x y=(fJ x y).getD Dy.zero:=by
  show (fJ ((fJ (cZ 1) x).getD Dy.zero) y).getD Dy.zero=_
  rw[mulD_one h]
  rfl
theorem b0q{neg:Bool}{n:Nat}{e:Int}(a : ∀ c,c=200000->n<2^c)(b : -500000<=e/\e<=500000): ∃ d,cQ neg n e=some d:=by
  by_cases h0:n=0
  · subst h0;exact ⟨_,jJ _ _⟩
  · have i:=yJ h0
    have h:bl n<=200000:=uJ.2 (a _ rfl)
    have g:(wd (n/2^tz n)).length<=8192:=wlenB λc f=>Nat.lt_of_le_of_lt (Nat.div_le_self _ _) (Nat.lt_of_lt_of_le (a _ rfl) (Nat.pow_le_pow_right oD oO))
    exact ⟨_,sZ h0 oO⟩
theorem dux{x y:Dy}(p : ∀ c,c=9000->x.m<2^c)(o : ∀ c,c=9000->y.m<2^c)(ex : -10000<=x.e/\x.e<=10000)(ey : -10000<=y.e/\y.e<=10000): ∃ d,xX x y=some d:=by
  have f : ∀ {m:Nat} {k:Nat},(∀ c,c=9000->m<2^c)->k<=20000->∀ c,c=199999->m*2^k<2^c:=λ{m k} b r c a=>by
    have s:m*2^k<2^9000*2^k:=Nat.mul_lt_mul_of_pos_right (b _ rfl) (Nat.two_pow_pos _)
    rw[<- Nat.pow_add] at s
    exact Nat.lt_of_lt_of_le s (Nat.pow_le_pow_right oD oO)
  have q : ∀ {m:Nat} {k:Nat},(∀ c,c=9000->m<2^c)->k<=20000->(wd (m*2^k)).length<=8192:=λ{m k} b r=>wlenB λc a=>Nat.lt_of_lt_of_le (f b r _ rfl) (Nat.pow_le_pow_right oD oO)
  have n:(x.e-min x.e y.e).toNat<=20000:=by omega
  have l:(y.e-min x.e y.e).toNat<=20000:=by omega
  have b : -500000<=min x.e y.e/\min x.e y.e<=500000:=by omega
  have j:=f p n
  have i:=f o l
  have g : ∀ c:Nat,c=200000->∀ d,d=199999->(2:Nat)^d+2^d<=2^c:=λc a d t=>by
    have:c=d+1:=by omega
    rw[this,Nat.pow_succ];omega
  have h : ∀ c:Nat,c=200000->∀ d,d=199999->(2:Nat)^d<=2^c:=λc a d t=>Nat.pow_le_pow_right oD oO
  unfold xX
  split
  · exact ⟨_,rfl⟩
  split
  · exact ⟨_,rfl⟩
  rw[if_neg (by have:=q p n;have:=q o l;omega)]
  split
  · exact b0q (λc a=>Nat.lt_of_lt_of_le (Nat.add_lt_add (j _ rfl) (i _ rfl)) (g c a _ rfl)) b
  split
  · exact b0q (λc a=>Nat.lt_of_le_of_lt (Nat.sub_le _ _) (Nat.lt_of_lt_of_le (i _ rfl) (h c a _ rfl))) b
  · exact b0q (λc a=>Nat.lt_of_le_of_lt (Nat.sub_le _ _) (Nat.lt_of_lt_of_le (j _ rfl) (h c a _ rfl))) b
structure Sm1(d:Dy):Prop where
  ok:d.ok
  m : ∀ c,c=4300->d.m<2^c
  e : -2500<=d.e/\d.e<=4300
theorem dmj{x y:Dy}(d:Sm1 x)(b:Sm1 y): ∃ z,fJ x y=some z/\z.ok/\(∀ c,c=9000->z.m<2^c)/\-10000<=z.e/\z.e<=10000:=by
  by_cases h0:x.m=0\/y.m=0
  · have e:fJ x y=some Dy.zero:=by
      unfold fJ
      have:x.m*y.m=0:=by rcases h0 with q|q<;>simp[q]
      rw[this,if_neg (by rw[eJ];decide),jJ]
    exact ⟨_,e,b4j,λc h=>Nat.two_pow_pos _,by decide,by decide⟩
  · have g:x.m≠0:=λq=>h0 (.inl q)
    have f:y.m≠0:=λq=>h0 (.inr q)
    have ex:=d.e
    have i:=b.e
    have e:=cmq (d.ok.odd g) (b.ok.odd f) (d.m _ rfl) (b.m _ rfl) oO oO
    refine ⟨_,e,mQ e,λc h=>?_,by dsimp only;omega,by dsimp only;omega⟩
    have a:x.m*y.m<2^4300*2^4300:=Nat.mul_lt_mul'' (d.m _ rfl) (b.m _ rfl)
    rw[<- Nat.pow_add] at a
    exact Nat.lt_of_lt_of_le a (Nat.pow_le_pow_right oO oO)
theorem subD_small{x y:Dy}(h:x.ok)(a:y.ok)(b : ∀ c,c=9000->x.m<2^c)(g : ∀ c,c=9000->y.m<2^c)(ex : -10000<=x.e/\x.e<=10000)(ey : -10000<=y.e/\y.e<=10000): ∃ d,crq x y=some d:=by
  unfold crq
  by_cases h0:y.m=0
  · rw[h0,jJ]
    exact dux b (λc j=>Nat.two_pow_pos _) ex oD
  · have f:=cdj (a.odd h0)
    have i:=a.len
    rw[sZ h0 (by rw[f];simp;omega),f]
    simp only[Nat.pow_zero,Nat.div_one]
    exact dux b g ex (by dsimp only;omega)
theorem Sm1.sum{S:Int}(h:InB S):Sm1 (dJ S):=by
  by_cases h0:S=0
  · subst h0;exact ⟨b4j,λc b=>Nat.two_pow_pos _,by decide⟩
  · obtain ⟨a,j,i,g,f,d,e⟩:=b3j h h0
    exact ⟨a1x h,λc b=>Nat.lt_of_lt_of_le d (Nat.pow_le_pow_right oD oO),by omega⟩
theorem Sm1.int{n:Int}(h:n.natAbs<=1099511627776):Sm1 (cZ n):=by
  have e:=bfj (n:=n) oO
  by_cases h0:n.natAbs=0
  · rw[h0,jJ] at e
    rw[<- Option.some.inj e]
    exact ⟨b4j,λc b=>Nat.two_pow_pos _,by decide⟩
  · have f:=yJ h0
    have d:bl n.natAbs<=64:=uJ.2 oO
    have a:=iJ e
    unfold cQ at e
    rw[if_neg h0] at e
    split at e
    · cases e
    · rw[<- Option.some.inj e]
      rw[<- Option.some.inj e] at a
      refine ⟨a,λc b=>Nat.lt_of_le_of_lt (Nat.div_le_self _ _) (Nat.lt_of_lt_of_le (by omega:n.natAbs<2^64) (Nat.pow_le_pow_right oD oO)),by dsimp only;omega⟩
theorem var_some{V Q:Int}(a:InB V)(c:InB Q){n:Int}(b:n.natAbs<=1099511627776): ∃ x y v,fJ (cZ n) (dJ Q)=some x/\fJ (dJ V) (dJ V)=some y/\crq x y=some v:=by
  obtain ⟨x,f,o,m,l,k⟩:=dmj (Sm1.int b) (Sm1.sum c)
  obtain ⟨y,e,j,i,h,g⟩:=dmj (Sm1.sum a) (Sm1.sum a)
  obtain ⟨v,d⟩:=subD_small o j m i ⟨l,k⟩ ⟨h,g⟩
  exact ⟨x,y,v,f,e,d⟩
end
section
open Go Sx Wd Fl
def RdM(lo:Nat)(w:World)(br:Nat)(bs:List Nat)(p:Nat)(bad:Bool):Prop:=∃ a c,BK w br 151 [.slice a bs.length c,.int .i64 (p:Int),.bool bad]/\RW w a (bs.map u8v)/\p<=bs.length/\bs.length<=c/\br<lo/\∀ ad,a=some ad->bs≠[]->ad.block<lo
theorem RdM.q5{lo:Nat}{w w':World}{e:Nat}{d:List Nat}{p:Nat}{bad:Bool}(h:RdM lo w e d p bad)(b:Chg [] w w'):RdM lo w' e d p bad:=by
  obtain ⟨a,c,j,i,g,f⟩:=h
  exact ⟨a,c,j.q5 b,i.q5 b,g,f⟩
theorem RdM.gZ{lo:Nat}{w w':World}{j:Nat}{p:Nat}{f:List Nat}{bad:Bool}{T:List Nat}(h:RdM lo w j f p bad)(g:Chg T w w')(hT : ∀ b∈T,lo<=b):RdM lo w' j f p bad:=by
  obtain ⟨a,c,o,n,m,l,k,i⟩:=h
  refine ⟨a,c,o.gZ g (λd=>by have:=hT _ d;omega),?_,m,l,k,i⟩
  by_cases hne:f=[]
  · rw[hne];exact RW.nil
  · exact n.keepB g (λq e d=>by have:=hT _ d;have:=i q e hne;omega)
theorem RdM.q8{lo:Nat}{w w':World}{d:Nat}{p:Nat}{a:List Nat}{bad:Bool}{b:Nat}{T:TypeId}{cs:List Value}(h:RdM lo w d a p bad)(_:BK w b T cs)(f:Chg [b] w w')(_ : ∀ c∈cs,abq c=false)(e:lo<=b:=by omega):RdM lo w' d a p bad:=h.gZ f λy hy=>by rw[List.mem_singleton.1 hy];exact e
theorem RdM.le{lo:Nat}{w:World}{c:Nat}{a:List Nat}{p:Nat}{bad:Bool}(h:RdM lo w c a p bad):p<=a.length:=by
  obtain ⟨_,_,_,_,b,_⟩:=h;exact b
theorem RdM.lt{lo:Nat}{w:World}{a:Nat}{c:List Nat}{p:Nat}{bad:Bool}(h:RdM lo w a c p bad):a<lo:=by
  obtain ⟨_,_,_,_,_,_,b,_⟩:=h;exact b
theorem u8_read(a:Option Addr)(m c:Nat)(p:Int)(bad:Bool): ∀ v∈[Value.slice a m c,.int .i64 p,.bool bad],isU8 v=false:=by
  intro v b
  simp only[List.mem_cons,List.not_mem_nil,or_false] at b
  rcases b with rfl|rfl|rfl<;>rfl
theorem RdM.set{x:Bool}{w w':World}{lo f p:Nat}{b:List Nat}{bad:Bool}{a:Option Addr}{c:Nat}(h:RdM lo w f b p bad)(l:BK w f 151 [.slice a b.length c,.int .i64 (p:Int),.bool bad])(d:BK w' f 151 [.slice a b.length c,.int .i64 (p:Int),.bool x])(k:Chg [f] w w'):RdM lo w' f b p x:=by
  obtain ⟨j,i,g,s,r,q,o,n⟩:=h
  have e:=l.symm.trans g
  have m:=s.d6q g k (u8_read _ _ _ _ _)
  injection e with e
  injection e with e _
  have u:[Value.slice a b.length c,.int .i64 (p:Int),.bool bad]=[.slice j b.length i,.int .i64 (p:Int),.bool bad]:=by
    have:=congrArg Array.toList e;simpa using this
  injection u with t _
  rw[t] at d
  exact ⟨j,i,d,m,r,q,o,n⟩
theorem leV_at{a:List Nat}{p q k:Nat}(h:q<k)(b:p+q<a.length):leV ((a.drop (p+q)).take (k-q))=a.getD (p+q) 0+256*leV ((a.drop (p+(q+1))).take (k-(q+1))):=by
  rw[List.drop_eq_getElem_cons b,show k-q=(k-(q+1))+1 by omega,List.take_succ_cons,leV,show p+(q+1)=p+q+1 by omega,List.getD_eq_getElem?_getD,List.getElem?_eq_getElem b]
  rfl
structure KGt(bs:List Nat)(a:Option Addr)(c br p k:Nat)(w0:World)(g:Nat×Nat)(w:World):Prop where
  hi:g.1<=k
  n:g.2=leV ((bs.drop (p+g.1)).take (k-g.1))
  b:BK w br 151 [.slice a bs.length c,.int .i64 (p:Int),.bool false]
  r:RW w a (bs.map u8v)
  ch:Chg [br] w0 w
theorem bbx(lo o p:Nat)(f:List Nat)(bad:Bool)(k:Nat)(w:World)(hR:RdM lo w o f p bad)(hL:f.length<=140737488355328)(hB:B8 f)(hk:k<=8):Ret Tryz.prog 91 [.pointer (some ⟨o,0,none⟩),.int .i64 (k:Int)] w λu w'=>u = .int .u64 ((rdN f p bad k).1:Int)/\RdM lo w' o f (rdN f p bad k).2.1 (rdN f p bad k).2.2/\Chg [o] w w':=by
 obtain ⟨a,c,e,r,hp,T,U,Y⟩:=hR;have d:Chg [o] w w:=Chg.refl _ _;have X:=e;have J:=r;refine zE2 Tryz.func91 rfl ?_;refine Sr λ_ a3=>za rfl (zz (a3 (zc λ_ a2=>?_)));refine CW.seqMD 24 (decide (bad=true\/f.length-p<k)) ?_ ?_
 ·refine CW.jQ cJ oR λb5 t h=>?_;have e:=e.q5 h;refine ym rfl (yP rfl (yf rfl ?_));refine WS.ev (Ev.load (v:=.bool bad) rfl rfl (e.at_ rfl)) rfl ?_;refine ym rfl ?_;refine WS.afq (λl=>?_) (λl=>?_)
  ·(try simp only[qs] at l);refine yv rfl (yv rfl (yv rfl (yv rfl (yv rfl (yv rfl (yv rfl (yv rfl (yv rfl (yv rfl (yv rfl (yv rfl (yt rfl rfl ?_))))))))))));refine WS.nil (t _ _ ?_);refine ⟨rfl,rfl,q9.g7 rfl ?_ ?_⟩
   ·first|(cases bad<;>first|(simp_all;done)|(simp;omega)|(simp_all;omega))
   exact SMg
  (try simp only[qs] at l);refine yw rfl (ym rfl (yw rfl (yP rfl (yw rfl (yf rfl (yw rfl ?_))))));refine WS.ev (Ev.load (v:=.slice a f.length c) rfl rfl (e.at_ rfl)) rfl ?_
  refine yw rfl (yn rfl (yw rfl (ym rfl (yw rfl (yP rfl (yw rfl (yf rfl (yw rfl ?_))))))));refine WS.ev (Ev.load rfl rfl (e.at_ rfl)) rfl ?_;refine yw rfl ?_
  first|refine WS.ev (Ev.dX rfl rfl oO) rfl ?_|refine WS.ev (Ev.sub rfl rfl) rfl ?_
  refine yw rfl (ym rfl (yw rfl ?_));refine WS.ev (Ev.lss rfl rfl) rfl ?_;refine ye rfl rfl ?_;refine WS.nil (t _ _ ?_);refine ⟨rfl,rfl,q9.g7 rfl ?_ ?_⟩
  ·first|(cases bad<;>first|(simp_all;done)|(simp;omega)|(simp_all;omega))
  exact SMg
 intro h;have d:=d.ta h;have e:=e.q5 h;refine zy rfl ?_ ?_<;>intro m<;>try simp only[qs] at m
 ·have M:bad=true\/f.length-p<k:=m
  have a9:=e;refine Sr λ_ a1=>zm rfl (zP rfl (zf rfl ?_));refine WL.bJ rfl rfl o1 e oS rfl λb4 i R=>?_;(try simp only[qt] at i);have d:=d.s1 R;have e:=i;refine zz (a1 (Sr λ_ a0=>za rfl (zz (a0 ?_))));refine zr (zr1 rfl rfl ?_);rw[show rdN f p bad k=(0,p,true) from if_pos M];exact ⟨rfl,⟨a,c,e,J.d6q X d (u8_read _ _ _ _ _),hp,T,U,Y⟩,d⟩
 have M : ¬(bad=true\/f.length-p<k):=λz=>by have h9:=m;rcases z with z|z<;>simp_all<;>omega
 have b8:k<=f.length-p:=by have:=λz=>M (.inr z);omega
 have b0:bad=false:=by cases bad with|true=>exact absurd (.inl rfl) M|false=>rfl
 subst b0;refine zkk (a2 (Sr λ_ Z=>za rfl (zz (Z (zc λ_ I=>Sr λ_ H=>zm rfl ?_)))));refine WL.ev (Ev.dX rfl rfl oO) rfl ?_;refine za rfl (zz (H (CW.block ?_)));refine CW.loop (S:=λg:Nat×Nat=>[(0,.pointer (some ⟨o,0,none⟩)),(1,.int .i64 (k:Int)),(5,.int .u64 (g.2:Int)),(6,.int .i64 ((g.1:Int)-1))]) (Inv:=KGt f a c o p k w) (mu:=λg=>g.1) ((k,0)) ?_ ?_ ?_
 ·exact ⟨Nat.le_refl _,by dsimp only;rw[Nat.sub_self,List.take_zero];rfl,e,r,d⟩
 ·exact SLp
 rintro ⟨j,n⟩ wr ⟨hj,O,e,r,d⟩;dsimp only at hj O;dsimp only;refine zc λ_ G=>Sr λ_ F=>zm rfl ?_;refine WL.ev (Ev.geq rfl rfl) rfl ?_;refine zz (F ?_);refine zy rfl ?_ ?_<;>intro a8<;>try simp only[qs] at a8
 ·obtain ⟨q,rfl⟩ : ∃ q,j=q+1:=⟨j-1,by omega⟩
  rw[show (((q+1:Nat):Int)-1)=(q:Int) by omega];have a4:=leV_lt ((hB.drop (p+(q+1))).take (k-(q+1)));have a5:((f.drop (p+(q+1))).take (k-(q+1))).length<=7:=by rw[List.length_take];omega
  have b6:=pow_le8 a5;rw[<- O] at a4;have a7:=hB.getD (p+q);refine zkk (G (zc λ_ D=>CW.block ?_));refine CW.jQ cJ oR λb1 A h=>?_;have d:=d.ta h;have e:=e.q5 h;refine ym rfl ?_;refine WS.ev (Ev.apx (a:=n) (b:=8) rfl rfl) rfl ?_;rw[Nat.mod_eq_of_lt oO];refine ym rfl (yP rfl (yf rfl ?_));refine WS.ev (Ev.load (v:=.slice a f.length c) rfl rfl (e.at_ rfl)) rfl ?_;refine ym rfl (yP rfl (yf rfl ?_));refine WS.ev (Ev.load rfl rfl (e.at_ rfl)) rfl ?_;refine ym rfl ?_;refine WS.ev (Ev.jZ rfl rfl oO) rfl ?_;refine WS.ev (Ev.ixR (p+q) rfl rfl r oO oO oT) rfl ?_;refine WS.ev (Ev.load rfl rfl (r.u8 oO)) rfl ?_;refine WS.ev (Ev.dZ rfl rfl (iZ oO)) rfl ?_;refine WS.ev (Ev.orU rfl rfl rfl (by simp only[IntKind.bits];omega) (by simp only[IntKind.bits];omega)) rfl ?_;rw[Nat.or_comm,agj (s:=8) a7,show f.getD (p+q) 0+n*2^8=f.getD (p+q) 0+256*n by omega];refine ya rfl ?_;refine WS.nil (A _ _ ?_);refine D (zS λ_ y=>zm rfl ?_)
  first|refine WL.ev (Ev.dX rfl rfl oO) rfl ?_|refine WL.ev (Ev.sub rfl rfl) rfl ?_
  refine za rfl (zz (y ?_));refine ⟨rfl,(q,f.getD (p+q) 0+256*n),?_,?_,?_⟩
  ·exact SLp
  ·exact ⟨by dsimp only;omega,by dsimp only;rw[leV_at oO oO,<- O],e,r,d⟩
  show q<q+1;omega
 have a6:j=0:=by omega
 subst a6;rw[Nat.add_zero,Nat.sub_zero] at O;refine CW.exit ?_;refine I (zc λ_ C=>?_);have a9:=e;refine zR λ_ x=>?_;refine zm rfl (zm rfl (zP rfl (zf rfl (zl e rfl rfl (zm rfl ?_)))));(first|refine zi rfl rfl ?_|refine zo rfl rfl ?_);refine zP rfl (zf rfl ?_);refine WL.bJ rfl rfl o1 e oS rfl λb3 i Q=>?_;(try simp only[qt] at i);have d:=d.s1 Q;have e:=i;refine WL.nil (x _ _ _ (C ?_));refine Sr λ_ B=>zm rfl (za rfl (zz (B ?_)));refine zr (zr1 rfl rfl ?_);have V:=e;rw[show (p:Int)+(k:Int)=((p+k:Nat):Int) by omega] at V;rw[show rdN f p false k=(leV ((f.drop p).take k),p+k,false) from if_neg M,<- O];dsimp only;exact ⟨rfl,⟨a,c,V,J.d6q X d (u8_read _ _ _ _ _),by omega,T,U,Y⟩,d⟩
theorem arj(lo r p:Nat)(b:List Nat)(bad:Bool)(w:World)(g:RdM lo w r b p bad)(H:b.length<=140737488355328)(B:B8 b):Ret Tryz.prog 86 [.pointer (some ⟨r,0,none⟩)] w λu w'=>u = .int .i64 ((rdC b p bad).1:Int)/\RdM lo w' r b (rdC b p bad).2.1 (rdC b p bad).2.2/\Chg [r] w w':=by
 refine zE1 Tryz.func86 rfl ?_;refine Sr λ_ z=>za rfl (zz (z (Sr λ_ y=>zm rfl ?_)));refine WL.call hasF91 rfl rfl (bbx lo r p b bad 8 _ g H B oD) λv M I=>?_;obtain ⟨rfl,g,l⟩:=I;have k:=crj B p bad 8 oD;generalize hN:rdN b p bad 8=R at *;obtain ⟨n,q,J⟩:=R;dsimp only at g k;dsimp only;refine za rfl (zz (y (zc λ_ x=>Sr λ_ t=>zm rfl (zG rfl rfl (zz (t ?_))))));refine zy rfl ?_ ?_<;>intro f<;>try simp only[qs] at f
 ·have m:1099511627776<n:=by have:=f;omega
  have e:rdC b p bad=(0,q,true):=by unfold rdC;rw[hN,if_pos m]
  obtain ⟨a,c,A,O,Q,D,F,G⟩:=id g;refine Sr λ_ s=>zm rfl (zP rfl (zf rfl ?_));refine WL.bJ rfl rfl rfl A oS rfl λC o d=>?_;simp only[List.set_cons_succ,List.set_cons_zero] at o;refine zz (s (Sr λ_ i=>za rfl (zz (i ?_))));refine zr (zr1 rfl rfl ?_);rw[e];exact ⟨rfl,g.set A o d,l.trans d⟩
 have j : ¬1099511627776<n:=by have:=f;omega
 have e:rdC b p bad=(n,q,J):=by unfold rdC;rw[hN,if_neg j]
 refine zkk (x (Sr λ_ h=>zm rfl ?_));refine WL.ev (Ev.dZ rfl rfl (tQ oO)) rfl ?_;refine za rfl (zz (h ?_));refine zr (zr1 rfl rfl ?_);rw[e];exact ⟨rfl,g,l⟩
end
end Go.Proofs.YtomlallhlakhfaaGreatDoor