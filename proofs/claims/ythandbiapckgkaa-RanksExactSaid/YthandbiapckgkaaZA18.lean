/- A loop over an iterator whose rounds all go on. No condition. -/
import Derived.Test.YthandbiapckgkaaZA17
import Derived.RangeFuncIn
namespace Go.Abs
variable {P:Program} {X:Nat→Prop} {m m':Mp} {H:Hp} {w w':World}
def parT:List Tmp→List D→Tp→Tp
 | p::ps,d::ds,T=>parT ps ds ((p,.d d)::T)
 | _,_,T=>T
theorem par_ok {N:Nat}:∀ (ps:List Tmp) (vs:List Value) (ds:List D) (T:Tp) (tmps:Array Value),(ps.all fun p=>Nat.blt p N)=true→ps.length=vs.length→vs.length=ds.length→(∀ (j:Nat) v c,vs[j]?=some v→ds[j]?=some c→Rd (Imm X m w) w v c) →
  tmps.size=N→(∀ t,V X m w (tmps.getD t undef) (getT T t)) →
  ((ps.zip vs).foldl (fun tmps (p:Tmp × Value)=>tmps.setIfInBounds p.1 p.2) tmps).size=N∧∀ t,V X m w (((ps.zip vs).foldl (fun tmps (p:Tmp × Value)=>tmps.setIfInBounds p.1 p.2) tmps).getD t undef) (getT (parT ps ds T) t)
 | [],vs,ds,T,tmps,_,_,_,_,hs,hT=>⟨hs,hT⟩
 | p::ps,[],ds,T,tmps,_,h,_,_,_,_=>by simp at h
 | p::ps,v::vs,[],T,tmps,_,_,h,_,_,_=>by simp at h
 | p::ps,v::vs,d::ds,T,tmps,hp,h1,h2,hv,hs,hT=>by
  simp only [List.all_cons,Bool.and_eq_true,Nat.blt_eq] at hp
  simp only [List.zip_cons_cons,List.foldl_cons,parT]
  refine par_ok ps vs ds _ _ hp.2 (by simpa using h1) (by simpa using h2) (fun j u c hu hc=>hv (j+1) u c (by simpa using hu) (by simpa using hc)) (by simpa using hs) fun t=>?_
  simp only [getT]
  by_cases e:p=t
  ·subst e
   simp only [Nat.beq_refl,cond_true]
   have:(tmps.setIfInBounds p v).getD p undef=v:=by
    rw [Array.getD_eq_getD_getElem?,Array.getElem?_setIfInBounds]
    simp [hs,hp.1]
   rw [this]; exact .d _ _ (hv 0 v d rfl rfl)
  ·have hb:Nat.beq p t=false:=by
    cases hq:Nat.beq p t with
    | false=>rfl
    | true=>exact absurd (Nat.eq_of_beq_eq_true hq) e
   simp only [hb,cond_false]
   have:(tmps.setIfInBounds p v).getD t undef=tmps.getD t undef:=by
    rw [Array.getD_eq_getD_getElem?,Array.getD_eq_getD_getElem?,Array.getElem?_setIfInBounds]
    simp [e]
   rw [this]; exact hT t
theorem KeepW.alloc2 (w:World) (o o':Obj):KeepW w ((w.alloc o).alloc o'):=by
 refine ⟨by simp; omega,fun b hb=>?_,rfl,rfl,rfl⟩
 rw [heap_alloc_old _ _ _ (by simp; omega),heap_alloc_old _ _ _ hb]
@[irreducible] def TrE (P:Program) (cx:Cx) (c:Code) (T:Tp) (H:Hp) (Q:Post):Prop :=
 ∀ (X:Nat→Prop) (mb:Mp) (wb:World) (m:Mp) (a:Act) (w:World),mb.length=cx.F→@Rel ds0 X mb wb cx.N m T H a w→a.defers=[]→c.wpIn (Fw cx.ro) 0 P (fun e a w=>a.defers=[]∧∃ m T H,@Rel ds0 X mb wb cx.N m T H a w∧Q e T H) a w
theorem TrE.region {cx:Cx} (hL:LayOK P cx.L) {id:Nat} {ops:Array Oper} {T:Tp} {H:Hp} {Q:Post} (h:RunOps P cx ops.toList ops.toList T H fun T H=>Q .normal T H):TrE P cx (.region id ops false) T H Q:=by
 unfold TrE
 intro X mb wb m a w hF hr hd
 refine wpIn_region ?_
 have hrun:=RunOps_ok (Q:=fun e a w=>a.defers=[]∧∃ m T H,Rel X mb wb cx.N m T H a w∧Q e T H) hL ops (d0:=[]) (fun m T H a w hd hr hk=>⟨hd,m,T,H,hr,hk⟩) ops.toList 0 T H m a w hd (by simp) h hr
 rw [List.range_eq_range']
 simpa using hrun
theorem TrE.seq {cx:Cx} {A B:Code} {T:Tp} {H:Hp} {Q:Post} (h:TrE P cx A T H fun e T H=>match e with
  | .normal=>TrE P cx B T H Q
  | e=>Q e T H):TrE P cx (.seq A B) T H Q:=by
 unfold TrE at h ⊢
 intro X mb wb m a w hF hr hd
 refine wpIn_seq (wpIn_mono (h X mb wb m a w hF hr hd) ?_)
 rintro e a w ⟨hd,m,T,H,hr,hq⟩
 cases e with
 | normal=>exact hq X mb wb m a w hF hr hd
 | _=>exact ⟨hd,m,T,H,hr,hq⟩
theorem RangeP.mk {cx:Cx} (hL:LayOK P cx.L) (hro:cx.ro=none) {g:Operand} {ps:Array Tmp} {asg body:Code} {T:Tp} {H:Hp} {Q:Post} {f:FuncId} {caps:List D} {xs:YL}
  (hg:opd T g=.d (.fn f caps)) (hit:ItC P f caps xs) (hps:∀ x ∈ xs.l,x.length=ps.size) (hlt:(ps.toList.all fun p=>Nat.blt p cx.N)=true) (S:Nat→Hp) (pe:Exit) (hpe:pe=.ret∨∃ id,pe=.exit id) (Sp:Hp) (hne:xs.st=true→0 < xs.l.length) (hnp:xs.pn.isSome=true→0 < xs.l.length) (h0:Wk H.length [] H [] (S 0))
  (round:∀ (l i:Nat) (x:List D),xs.l[i]?=some x→∃ R:Post,(TrE P { N:=cx.N,ro:=some l,L:=cx.L,F:=(S i).length } asg (parT ps.toList x T) (S i) fun e T1 H1=>match e with
   | .normal=>Tr P { N:=cx.N,ro:=some l,L:=cx.L,F:=H1.length } body T1 H1 R
   | _=>False)∧∀ e T2 H2,R e T2 H2→match (generalizing:=false) (if i+1=xs.l.length then xs.pn else none) with
    | some pv=>e=.panic (pch pv)∧Wk H.length T2 H2 [] Sp
    | none=>e=(if goB xs i=true then .normal else pe)∧Wk H.length T2 H2 [] (S (i+1)))
  (hdone:match (generalizing:=false) xs.pn with
   | some pv=>Q (.panic (pch pv)) T Sp
   | none=>Q (if xs.st=true then pe else .normal) T (S xs.l.length)):RangeP P cx g ps asg body T H Q:=by
 unfold RangeP Tr
 intro X mb wb m0 a0 w0 hF hr
 unfold ItC at hit
 obtain ⟨⟨fd,fc,hfn,hfb,hfname⟩,hit⟩:=hit
 refine wpX_rangeFunc ?_
 intro fn _ hfx
 rw [hro]
 have hgv:=opd_ok hr g
 rw [hg] at hgv
 obtain ⟨lb,hgl,hlb,hlbv⟩:∃ lb:Array Value,a0.eval g=.func (.func f) #[] lb∧lb.size=caps.length∧∀ (j:Nat) v c,lb[j]?=some v→caps[j]?=some c→Rd (Imm X m0 w0) w0 v c:=by
  generalize a0.eval g=u at hgv
  cases hgv with
  | d _ _ hr =>
   cases hr with
   | fn _ vs _ hl h=>exact ⟨vs,rfl,hl,h⟩
 obtain ⟨rec,hrec⟩:∃ rec:Loop,rec={ state:=.ready,pending:=none,fn,tmps:=a0.tmps,params:=ps,assign:=asg,body,defers:=w0.heap.size }:=⟨_,rfl⟩
 obtain ⟨pc,hpc⟩:∃ pc:Code,(pe=.ret∧pc=.ret)∨∃ id,pe=.exit id∧pc=.exit id:=by
  rcases hpe with h | ⟨id,h⟩
  ·exact ⟨.ret,.inl ⟨h,rfl⟩⟩
  ·exact ⟨.exit id,.inr ⟨id,h,rfl⟩⟩
 obtain ⟨recd,hrecd⟩:∃ recd:Loop,recd={ rec with state:=.done,pending:=some pc }:=⟨_,rfl⟩
 obtain ⟨rb,hrb⟩:∃ rb:Loop,rb={ rec with state:=.busy }:=⟨_,rfl⟩
 obtain ⟨rk,hrk⟩:∃ rk:Nat→Loop,rk=fun i=>if i=xs.l.length+1 then rb else if xs.st=true∧i=xs.l.length then recd else rec:=⟨_,rfl⟩
 obtain ⟨SS,hSS⟩:∃ SS:Nat→Hp,SS=fun i=>if i=xs.l.length+1 then Sp else S i:=⟨_,rfl⟩
 have hSSle:∀ i,i≤xs.l.length→SS i=S i:=fun i hi=>by rw [hSS]; exact if_neg (by omega)
 have hrk0:rk 0=rec:=by
  rw [hrk]
  refine (if_neg (by omega)).trans (if_neg fun h=>?_)
  have:=hne h.1
  omega
 obtain ⟨W1,hW1⟩:∃ W1,(w0.alloc (.deferred (some []))).alloc (.loop rec)=W1:=⟨_,rfl⟩
 obtain ⟨l,hl⟩:∃ l,l=w0.heap.size+1:=⟨_,rfl⟩
 obtain ⟨D,hD⟩:∃ D,D=w0.heap.size:=⟨_,rfl⟩
 have hkw:KeepW w0 W1:=by rw [← hW1]; exact KeepW.alloc2 _ _ _
 have hL1:W1.heap[l]?=some (.loop rec):=by
  rw [← hW1,hl]; have:=World.alloc_heap_new (w0.alloc (.deferred (some []))) (.loop rec); rwa [World.size_alloc] at this
 have hK1:W1.heap[D]?=some (.deferred (some [])):=by
  rw [← hW1,hD]; exact (heap_alloc_old _ _ _ (by simp)).trans (World.alloc_heap_new w0 _)
 have hnm:∀ b,w0.heap.size≤b→ME.blk b ∉ m0:=fun b hb hmem=>by
  obtain ⟨κ,hκ⟩:=get_of_mem hmem
  have:=(hr.heap.lt κ b hκ).1
  omega
 let J:Nat→(Nat→Prop)→World→Prop:=fun i X' w=>∃ m,Ext X m0 w0 m w∧HRel X m (SS i) w∧(∀ b,ME.blk b ∈ m→X' b)∧X' l∧(∀ b,X b→X' b)∧w.heap[l]?=some (.loop (rk i))∧ME.blk l ∉ m∧w.heap[D]?=some (.deferred (some []))∧ME.blk D ∉ m∧(xs.pn.isSome=true→i≠xs.l.length)
 have hJ:JOK P l xs J:=by
  refine ⟨?_,?_,?_⟩
  ·rintro i X' X'' w ⟨m,a,b,c,d,e,f⟩ hx
   exact ⟨m,a,b,fun b hb=>hx b (c b hb),hx l d,fun b hb=>hx b (e b hb),f⟩
  ·rintro i X' w w' ⟨m,a,b,c,d,e,g1,g2,g3,g4,g5⟩ hk
   exact ⟨m,a.trans hk.ext,hk.hrel b,c,d,e,(hk.same l (Array.getElem?_eq_some_iff.1 g1).1).trans g1,g2,(hk.same D (Array.getElem?_eq_some_iff.1 g3).1).trans g3,g4,g5⟩
  ·rintro i x X' w vs hx ⟨m,hxt,hh,hmX,hXl,hXX,hwl,hlm,hwD,hDm,_⟩ hX' hs hvd
   have hxs:=hps x (List.mem_of_getElem? hx)
   obtain ⟨R,hR1,hR2⟩:=round l i x hx
   have hil:i < xs.l.length:=(List.getElem?_eq_some_iff.1 hx).1
   have hrki:rk i=rec:=by
    rw [hrk]
    exact (if_neg (by omega)).trans (if_neg fun h=>by omega)
   rw [hrki] at hwl
   rw [hSSle i (by omega)] at hh
   have hy:=run_yield (P:=P) (args:=vs) hwl (by rw [hrec]; simp only []; rw [hs,hxs])
   refine ⟨_,_,_,_,hy,roundIn_of_wpX trivial (by rw [hrec]; exact hfx) ?_⟩
   have hfold:(rec.params.zip vs).foldl (fun tmps (p:Tmp × Value)=>tmps.setIfInBounds p.1 p.2) rec.tmps=(ps.toList.zip vs.toList).foldl (fun tmps (p:Tmp × Value)=>tmps.setIfInBounds p.1 p.2) a0.tmps:=by
    rw [hrec]
    simp only []
    rw [← Array.foldl_toList,Array.toList_zip]
   have hxt':Ext X m0 w0 m w:=hxt
   obtain ⟨hsz,htm⟩:=par_ok (X:=X) (m:=m) (w:=w) (N:=cx.N) ps.toList vs.toList x T a0.tmps hlt (by simp; omega) (by simpa using hs) (fun j v c hv hc=>(hvd j v c (by simpa using hv) hc).mono fun b hb=>⟨⟨hb.1,fun h=>hb.2.1 (hXX b h),fun h=>hb.2.1 (hmX b h)⟩,rfl⟩) hr.size (fun t=>(hr.tmp t).ext hxt)
   have hrel:Rel X m w cx.N m (parT ps.toList x T) (S i) { tmps:=(rec.params.zip vs).foldl (fun tmps (p:Tmp × Value)=>tmps.setIfInBounds p.1 p.2) rec.tmps,defers:=[] } w:=by
    refine ⟨.refl _ _ _,?_,?_,hh,⟨[],rfl,List.nodup_nil,fun D h=>by cases h⟩⟩
    ·simp only [hfold]; exact hsz
    ·simp only [hfold]; exact htm
   have hasg:rec.assign=asg:=by rw [hrec]
   have hbod:rec.body=body:=by rw [hrec]
   have hrfn:rec.fn=fn:=by rw [hrec]
   rw [hasg,hbod,hrfn]
   unfold TrE at hR1
   have hops:=hR1 X m w m _ w hh.len hrel rfl
   refine wpX_mono (wpX_of hops) ?_
   ·-- the assignment is done
    rintro e a1 w1 ⟨hd1,m1,T1,H1,hr1,hb1⟩
    cases e with
    | normal =>
     have hlw:l < w.heap.size:=(Array.getElem?_eq_some_iff.1 hwl).1
     have hDw:D < w.heap.size:=(Array.getElem?_eq_some_iff.1 hwD).1
     obtain ⟨kl1,kl2⟩:=hr1.ext.keep l hlw hlm
     obtain ⟨kD1,kD2⟩:=hr1.ext.keep D hDw hDm
     have hwl1:=kl1.trans hwl
     refine ⟨_,run_beginRound hwl1 (by rw [hrec]),?_⟩
     rw [← hrb]
     obtain ⟨w2,hw2⟩:∃ w2,w2=w1.putObj l (.loop rb):=⟨_,rfl⟩
     rw [← hw2]
     have hcalm:Calm m1 w1 w2:=by rw [hw2]; exact Calm.putObj hwl1 (fun _ _ _ h=>by cases h)
     have hlw1:l < w1.heap.size:=Nat.lt_of_lt_of_le hlw hr1.ext.size
     have hwl2:w2.heap[l]?=some (.loop rb):=by rw [hw2]; exact World.putObj_heap_same hlw1
     have hoth2:∀ b,b≠l→w2.heap[b]?=w1.heap[b]?:=fun b hb=>by rw [hw2]; exact World.putObj_heap_other hb
     have hr2:Rel X m1 w2 cx.N m1 T1 H1 a1 w2:=⟨.refl _ _ _,hr1.size,fun t=>(hr1.tmp t).calm hcalm,hr1.heap.calm hcalm,⟨[],hd1,List.nodup_nil,fun D h=>by cases h⟩⟩
     have hx2:Ext X m0 w0 m1 w2:=by rw [hw2]; exact (hxt.trans hr1.ext).putObj hwl1 (fun _ _ _ h=>by cases h) (by omega)
     have htr:=hb1
     unfold Tr at htr
     have hbody:=htr X m1 w2 m1 a1 w2 hr1.heap.len hr2
     refine wpX_mono hbody ?_
     rintro e a2 w3 ⟨m2,T2,H2,hr3,hqR⟩
     have hq0:=hR2 e T2 H2 hqR
     have hlw2:l < w2.heap.size:=(Array.getElem?_eq_some_iff.1 hwl2).1
     obtain ⟨kl3,kl4⟩:=hr3.ext.keep l hlw2 kl2
     have hwl3:=kl3.trans hwl2
     have hsz2:w2.heap.size=w1.heap.size:=hcalm.size
     have hs1:=hr1.ext.size
     have hs3:=hr3.ext.size
     have hDl:D≠l:=by omega
     have hD2:w2.heap[D]?=some (.deferred (some [])):=(hoth2 D hDl).trans (kD1.trans hwD)
     have hDw2:D < w2.heap.size:=(Array.getElem?_eq_some_iff.1 hD2).1
     obtain ⟨kD3,kD4⟩:=hr3.ext.keep D hDw2 kD2
     have gen:∀ (w':World) (r:Loop) (Hn:Hp),Calm m2 w3 w'→Ext X m0 w0 m2 w'→(∀ b,b < w2.heap.size→b≠l→ME.blk b ∉ m1→w'.heap[b]?=w2.heap[b]?)→w'.heap[l]?=some (.loop r)→Wk H.length T2 H2 [] Hn →
       w.heap.size≤w'.heap.size∧(∀ b,b < w.heap.size→¬ X' b→w'.heap[b]?=w.heap[b]?)∧∃ m',Ext X m0 w0 m' w'∧HRel X m' Hn w'∧(∀ b,ME.blk b ∈ m'→newX X' w w' b)∧newX X' w w' l∧(∀ b,X b→newX X' w w' b)∧w'.heap[l]?=some (.loop r)∧ME.blk l ∉ m'∧w'.heap[D]?=some (.deferred (some []))∧ME.blk D ∉ m':=by
      intro w' r Hn hcalm4 hx4 hoth4 hwl4 hwk
      have hsz4:w'.heap.size=w3.heap.size:=hcalm4.size
      have hrel4:Rel X m0 w0 cx.N m2 T2 H2 { tmps:=a2.tmps,defers:=[] } w':=⟨hx4,hr3.size,fun t=>(hr3.tmp t).calm hcalm4,hr3.heap.calm hcalm4,⟨[],rfl,List.nodup_nil,fun D h=>by cases h⟩⟩
      unfold Wk at hwk
      obtain ⟨m',hrel',hsub⟩:=hwk X m0 w0 cx.N m2 _ w' hr.heap.len hrel4
      refine ⟨by omega,fun b hb hXb=>?_,m',hrel'.ext,hrel'.heap,fun b hb=>?_,.inl hXl,fun b hb=>.inl (hXX b hb),hwl4,fun h=>kl4 (hsub l h),(hoth4 D hDw2 hDl kD2).trans hD2,fun h=>kD4 (hsub D h)⟩
      ·have hbl:b≠l:=fun e=>hXb (e ▸ hXl)
       obtain ⟨k1,k2⟩:=hr1.ext.keep b hb (fun h=>hXb (hmX b h))
       exact (hoth4 b (by omega) hbl k2).trans ((hoth2 b hbl).trans k1)
      ·rcases Nat.lt_or_ge b w.heap.size with hbw | hbw
       ·refine .inl ?_
        rcases Classical.em (ME.blk b ∈ m) with hm | hm
        ·exact hmX b hm
        ·obtain ⟨k1,k2⟩:=hr1.ext.keep b hbw hm
         obtain ⟨k3,k4⟩:=hr3.ext.keep b (by omega) k2
         exact absurd (hsub b hb) k4
       ·obtain ⟨κ,hκ⟩:=get_of_mem hb
        exact .inr ⟨hbw,(hrel'.heap.lt κ b hκ).1⟩
     cases hpn:(if i+1=xs.l.length then xs.pn else none) with
     | some pv =>
      rw [hpn] at hq0
      obtain ⟨rfl,hwk⟩:=hq0
      have hlast:i+1=xs.l.length∧xs.pn=some pv:=by
       split at hpn
       ·rename_i h; exact ⟨h,hpn⟩
       ·cases hpn
      obtain ⟨fx,hfx'⟩:=hfx
      refine ⟨fx,hfx',?_⟩
      obtain ⟨ms,hde,hnd,hms⟩:=hr3.defers
      rw [hde,dsv_nil]
      refine leaves_marksD (m:=m2) (mb:=m1) (wb:=w2) (by simp) (fun w' hc hx=>?_) ms hnd (fun D' hD'=>⟨(hms D' hD').1.1,(hms D' hD').2⟩) hr3.ext
      obtain ⟨g1,g2,m',g3,g4,g5,g6,g7,g8,g9,g10,g11⟩:=gen w' rb Sp hc (hx2.trans hx) (fun b hb _ hbm=>(hx.keep b hb hbm).1) ((hx.keep l hlw2 kl2).1.trans hwl2) hwk
      refine ⟨g1,g2,.inr ⟨pv,hlast.2,rfl,m',g3,?_,g5,g6,g7,?_,g9,g10,g11,fun _=>by omega⟩⟩
      ·rw [hSS]; simpa using g4
      ·rw [hrk]; simpa using g8
     | none =>
     rw [hpn] at hq0
     obtain ⟨hqe,hq⟩:=hq0
     have hnl:xs.pn.isSome=true→i+1≠xs.l.length:=fun h1 h2=>by
      rw [if_pos h2] at hpn
      rw [hpn] at h1; cases h1
     have fin:∀ jump:Option Code,({ rb with state:=if jump.isNone then LoopState.ready else LoopState.done,pending:=jump }:Loop)=rk (i+1)→jump.isNone=goB xs i→∃ v w',(Instr.endRound l jump).run P w3=.ok v w'∧((w.heap.size≤w'.heap.size∧(∀ b,b < w.heap.size→¬ X' b→w'.heap[b]?=w.heap[b]?)∧((Ending.returned v=.returned (.bool (goB xs i))∧J (i+1) (newX X' w w') w')∨∃ pv,xs.pn=some pv∧Ending.returned v=.panicked (pch pv)∧J (xs.l.length+1) (newX X' w w') w'))):=by
      intro jump hback hjn
      have hend:=run_endRound (P:=P) jump hwl3
      rw [hback,hjn] at hend
      refine ⟨_,_,hend,?_⟩
      obtain ⟨w4,hw4⟩:∃ w4,w4=w3.putObj l (.loop (rk (i+1))):=⟨_,rfl⟩
      rw [← hw4]
      have hcalm4:Calm m2 w3 w4:=by rw [hw4]; exact Calm.putObj hwl3 (fun _ _ _ h=>by cases h)
      have hlw3:l < w3.heap.size:=(Array.getElem?_eq_some_iff.1 hwl3).1
      have hwl4:w4.heap[l]?=some (.loop (rk (i+1))):=by rw [hw4]; exact World.putObj_heap_same hlw3
      have hoth4:∀ b,b≠l→w4.heap[b]?=w3.heap[b]?:=fun b hb=>by rw [hw4]; exact World.putObj_heap_other hb
      have hx4:Ext X m0 w0 m2 w4:=by rw [hw4]; exact (hx2.trans hr3.ext).putObj hwl3 (fun _ _ _ h=>by cases h) (by omega)
      obtain ⟨g1,g2,m',g3,g4,g5,g6,g7,g8,g9,g10,g11⟩:=gen w4 _ (S (i+1)) hcalm4 hx4 (fun b hb hbl hbm=>(hoth4 b hbl).trans (hr3.ext.keep b hb hbm).1) hwl4 hq
      exact ⟨g1,g2,.inl ⟨rfl,m',g3,by rw [hSSle (i+1) (by omega)]; exact g4,g5,g6,g7,g8,g9,g10,g11,hnl⟩⟩
     by_cases hgo:goB xs i=true
     ·rw [if_pos hgo] at hqe
      subst hqe
      refine fin none ?_ (by rw [hgo]; rfl)
      have:rk (i+1)=rec:=by
       rw [hrk]
       refine (if_neg (by omega)).trans (if_neg fun h=>?_)
       unfold goB at hgo
       rw [h.1,h.2,Nat.beq_refl] at hgo
       cases hgo
      rw [this,hrb,hrec]; rfl
     ·rw [if_neg hgo] at hqe
      subst hqe
      have hgo':goB xs i=false:=by simpa using hgo
      have hst:xs.st=true∧i+1=xs.l.length:=by
       unfold goB at hgo'
       simp only [Bool.not_eq_false',Bool.and_eq_true] at hgo'
       exact ⟨hgo'.1,Nat.eq_of_beq_eq_true hgo'.2⟩
      have hf:=fin (some pc) (by
       have:rk (i+1)=recd:=by rw [hrk]; exact (if_neg (by omega)).trans (if_pos hst)
       rw [this,hrecd,hrb,hrec]; rfl) (by rw [hgo']; rfl)
      rcases hpc with ⟨h1,h2⟩ | ⟨id,h1,h2⟩
      ·rw [h2] at hf; rw [h1]; exact hf
      ·rw [h2] at hf; rw [h1]; exact hf
    | _=>exact hb1.elim
 refine ⟨l,[{ target:=.collected D,args:=#[] }],W1,{ target:=.fn (.func f) lb,args:=#[.func (.yield l) #[] #[]] },W1,f,#[.func (.yield l) #[] #[]]++lb,W1,?_,?_,fun _ _=>trivial,?_,fun h=>by simp [Fw] at h,?_⟩
 ·rw [← hW1,hrec,hl,hD]; exact run_enterLoop_outer _ _ _ _ _
 ·simp only [resolve,hgl]
  simp [go_sem]
 ·simp [invoke,callFunc,hfn,hfb,beq_eq_false_iff_ne.1 hfname]
 ·have hX0:∀ b,Imm X m0 w0 b→¬ (X b∨ME.blk b ∈ m0∨b=l):=by
   rintro b hb (h1 | h1 | h1)
   ·exact hb.2.1 h1
   ·exact hb.2.2 h1
   ·have:=hb.1; omega
  have hXlt:∀ b,(X b∨ME.blk b ∈ m0∨b=l)→b < W1.heap.size:=by
   rintro b (h1 | h1 | h1)
   ·exact Nat.lt_of_lt_of_le (hr.heap.old b h1) hkw.size
   ·obtain ⟨κ,hκ⟩:=get_of_mem h1
    exact Nat.lt_of_lt_of_le (hr.heap.lt κ b hκ).1 hkw.size
   ·rw [h1]; exact (Array.getElem?_eq_some_iff.1 hL1).1
  unfold Wk at h0
  obtain ⟨m1,hrel1,hsub1⟩:=h0 X m0 w0 cx.N m0 { tmps:=a0.tmps,defers:=[] } w0 hr.heap.len ⟨.refl _ _ _,hr.size,fun t=>.un _,hr.heap,⟨[],rfl,List.nodup_nil,fun D h=>by cases h⟩⟩
  have hJ0:J 0 (fun b=>X b∨ME.blk b ∈ m0∨b=l) W1:=⟨m1,hrel1.ext.trans hkw.ext,by rw [hSSle 0 (by omega)]; exact hkw.hrel hrel1.heap,fun b hb=>.inr (.inl (hsub1 b hb)),.inr (.inr rfl),fun b hb=>.inl hb,by rw [hrk0]; exact hL1,fun h=>hnm l (by omega) (hsub1 l h),hK1,fun h=>hnm D (by omega) (hsub1 D h),fun h=>by have:=hnp h; omega⟩
  have hTab:TabX (fun b=>X b∨ME.blk b ∈ m0∨b=l) [] W1:=⟨fun g cs hg=>by
   obtain ⟨⟨el,fz,h1⟩,h2,h3⟩:=hr.heap.tab.get g cs hg
   have hlt:g < w0.heap.size:=(Array.getElem?_eq_some_iff.1 h1).1
   refine ⟨⟨el,fz,(hkw.same g hlt).trans h1⟩,?_,by simp⟩
   rintro (h4 | h4 | h4)
   ·exact h2 h4
   ·exact h3 h4
   ·omega⟩
  have hcall:=hit l J hJ (fun b=>X b∨ME.blk b ∈ m0∨b=l) lb W1 hlb (fun j v c hv hc=>(hlbv j v c hv hc).mono fun b hb=>⟨⟨Nat.lt_of_lt_of_le hb.1 hkw.size,hX0 b hb,by simp⟩,hkw.same b hb.1⟩) hXlt hTab hJ0
  refine CallsIn.mono hcall ?_
  have hdf:∀ (m:Mp) (w':World),Ext X m0 w0 m w'→w'.heap[D]?=some (.deferred (some []))→ME.blk D ∉ m→∃ ms:List Nat,({ a0 with defers:=[{ target:=.collected D,args:=#[] }]++a0.defers }:Act).defers=marks ms++dsv∧ms.Nodup∧∀ D ∈ ms,(w'.heap[D]?=some (.deferred (some []))∧ME.blk D ∉ m)∧wb.heap.size≤D:=by
   intro m w' hxt hwD hDm
   obtain ⟨ms,he,hnd,hms⟩:=hr.defers
   refine ⟨D::ms,by simp [marks,he],List.nodup_cons.2 ⟨fun hmem=>?_,hnd⟩,fun D' hD'=>?_⟩
   ·have:=(Array.getElem?_eq_some_iff.1 (hms D hmem).1.1).1
    omega
   ·rcases List.mem_cons.1 hD' with rfl | hD'
    ·exact ⟨⟨hwD,hDm⟩,by have:=hr.ext.size; omega⟩
    ·obtain ⟨h1,h2⟩:=hms D' hD'
     exact ⟨defers_ext hxt h1,h2⟩
  rintro e w' (⟨v,X',rfl,m,hxt,hh,hmX,hXl,hXX,hwl,hlm,hwD,hDm,hnn⟩ | ⟨pv,X',hpv,rfl,m,hxt,hh,hmX,hXl,hXX,hwl,hlm,hwD,hDm,hnn⟩)
  rotate_left
  ·rw [hpv] at hdone
   refine ⟨m,T,Sp,⟨hr.ext.trans hxt,hr.size,fun t=>(hr.tmp t).ext hxt,?_,hdf m w' hxt hwD hDm⟩,hdone⟩
   rw [hSS] at hh
   simpa using hh
  have hpn:xs.pn=none:=by
   cases h:xs.pn with
   | none=>rfl
   | some pv=>exact absurd rfl (hnn (by rw [h]; rfl))
  rw [hpn] at hdone
  rw [hSSle _ (Nat.le_refl _)] at hh
  have hbusy:(rk xs.l.length).state≠.busy:=by
   rw [hrk]
   simp only []
   rw [if_neg (by omega)]
   split
   ·rw [hrecd]; simp
   ·rw [hrec]; simp
  have hend:=run_endLoop (P:=P) hwl hbusy
  obtain ⟨o,ho⟩:∃ o:Loop,o={ rk xs.l.length with state:=.exhausted }:=⟨_,rfl⟩
  rw [← ho] at hend
  refine ⟨_,_,hend,?_⟩
  have hcalm:Calm m w' (w'.putObj l (.loop o)):=Calm.putObj hwl (fun _ _ _ h=>by cases h)
  have hx4:Ext X m0 w0 m (w'.putObj l (.loop o)):=hxt.putObj hwl (fun _ _ _ h=>by cases h) (by omega)
  have hfin:Rel X mb wb cx.N m T (S xs.l.length) { a0 with defers:=[{ target:=.collected D,args:=#[] }]++a0.defers } (w'.putObj l (.loop o)) :=
   ⟨hr.ext.trans hx4,hr.size,fun t=>((hr.tmp t).ext hxt).calm hcalm,hh.calm hcalm,hdf m _ hx4 ((World.putObj_heap_other (by omega)).trans hwD) hDm⟩
  by_cases hst:xs.st=true
  ·rw [if_pos hst] at hdone
   have:(rk xs.l.length).pending=some pc:=by
    have:rk xs.l.length=recd:=by rw [hrk]; exact (if_neg (by omega)).trans (if_pos ⟨hst,rfl⟩)
    rw [this,hrecd]
   rw [this]
   rcases hpc with ⟨h1,h2⟩ | ⟨id,h1,h2⟩
   ·rw [h2]; rw [h1] at hdone; exact wpIn_ret ⟨m,T,S xs.l.length,hfin,hdone⟩
   ·rw [h2]; rw [h1] at hdone; exact wpIn_exit ⟨m,T,S xs.l.length,hfin,hdone⟩
  ·rw [if_neg hst] at hdone
   have:(rk xs.l.length).pending=none:=by
    have:rk xs.l.length=rec:=by rw [hrk]; exact (if_neg (by omega)).trans (if_neg fun h=>hst h.1)
    rw [this,hrec]
   rw [this]
   exact ⟨m,T,S xs.l.length,hfin,hdone⟩
theorem RangeP.mk0 {cx:Cx} (hL:LayOK P cx.L) (hro:cx.ro=none) {g:Operand} {ps:Array Tmp} {asg body:Code} {T:Tp} {H:Hp} {Q:Post} {f:FuncId} {caps:List D} {xs:YL} (hpn:xs.pn=none)
  (hg:opd T g=.d (.fn f caps)) (hit:ItC P f caps xs) (hps:∀ x ∈ xs.l,x.length=ps.size) (hlt:(ps.toList.all fun p=>Nat.blt p cx.N)=true) (S:Nat→Hp) (pe:Exit) (hpe:pe=.ret∨∃ id,pe=.exit id) (hne:xs.st=true→0 < xs.l.length) (h0:Wk H.length [] H [] (S 0))
  (round:∀ (l i:Nat) (x:List D),xs.l[i]?=some x→∃ R:Post,(TrE P { N:=cx.N,ro:=some l,L:=cx.L,F:=(S i).length } asg (parT ps.toList x T) (S i) fun e T1 H1=>match e with
   | .normal=>Tr P { N:=cx.N,ro:=some l,L:=cx.L,F:=H1.length } body T1 H1 R
   | _=>False)∧∀ e T2 H2,R e T2 H2→e=(if goB xs i=true then .normal else pe)∧Wk H.length T2 H2 [] (S (i+1)))
  (hdone:Q (if xs.st=true then pe else .normal) T (S xs.l.length)):RangeP P cx g ps asg body T H Q:=by
 refine RangeP.mk hL hro hg hit hps hlt S pe hpe [] hne (fun h=>by rw [hpn] at h; cases h) h0 (fun l i x hx=>?_) (by rw [hpn]; exact hdone)
 obtain ⟨R,h1,h2⟩:=round l i x hx
 refine ⟨R,h1,fun e T2 H2 h=>?_⟩
 have:(if i+1=xs.l.length then xs.pn else none)=none:=by rw [hpn]; split <;> rfl
 rw [this]
 exact h2 e T2 H2 h
end Go.Abs
