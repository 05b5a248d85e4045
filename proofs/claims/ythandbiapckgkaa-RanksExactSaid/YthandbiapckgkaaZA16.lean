/- What a function's call comes to, out of its body's run; calls of functions that read their arguments only. No condition. -/
import Derived.Test.YthandbiapckgkaaZA15
import Derived.RangeFuncRecord
namespace Go.Abs
variable {P:Program} {X:Nat→Prop} {m m':Mp} {H:Hp} {w w':World}
def ldV (li:LI) (x:AV) (H:Hp) (k:AV→Prop):Prop :=
 match x with
 | .pt κ o=>nthK H κ fun B=>match B with
  | some (.var cs)=>dropK cs o fun r=>takeK r li.size fun c=>aggK li.agg c k
  | _=>False
 | _=>False
theorem ldV_ok {t:TypeId} {li:LI} {i:TypeInfo} {u:TypeDesc} {z:Value} (hl:LIs P t li i u z) {x:AV} {v:Value} {k:AV→Prop} (hv:V X m w v x) (hh:HRel X m H w)
  (h:ldV li x H k):∃ v' av,(asAddr v >>= fun a=>loadVar t a).run P w=.ok v' w∧V X m w v' av∧k av:=by
 unfold ldV at h
 split at h
 ·rename_i κ o
  obtain ⟨B,hB,h⟩:=nthK_ok h
  split at h
  ·rename_i cs
   obtain ⟨h1,h⟩:=dropK_ok h
   obtain ⟨h2,h⟩:=takeK_ok h
   cases hv with
   | pt _ _ _ hκ _ hp =>
    rcases hh.blk2 κ _ hB with ⟨b,vs,el,hb,hg,hR⟩ | ⟨_,_,hB0⟩
    case inr=>cases hB0
    have e:=hp b hb
    subst e
    obtain ⟨v',av,hrun,hV,hk⟩:=run_loadVar (w:=w) (X:=X) (m:=m) hl b o ((cs.drop o).take li.size) _ (fun j c hc=>by
     have hlt:=(List.getElem?_eq_some_iff.1 hc).1
     simp at hlt
     rw [List.getElem?_take,if_pos (by omega),List.getElem?_drop] at hc
     obtain ⟨u,e,hu⟩:=hR (o+j) c hc
     exact ⟨u,by rw [cell_of_row w b _ vs el _ hg]; exact e,hu⟩) (by simp at h2 ⊢; omega) h
    exact ⟨v',av,by simp [asAddr,hrun],hV,hk⟩
  ·exact h.elim
 ·exact h.elim
/- Results. -/
def resK (L:Lay) (T:Tp) (H:Hp):List ResultVar→(List AV→Prop)→Prop
 | [],k=>k []
 | .tmp t::r,k=>fK (getT T t) fun v=>resK L T H r fun vs=>k (v::vs)
 | .cell a t::r,k=>liK L t fun li=>ldV li (getT T a) H fun v=>resK L T H r fun vs=>k (v::vs)
theorem fK_mk {x:AV} {k:AV→Prop} (h:k x):fK x k:=by cases x <;> exact h
theorem dropK_mono {α:Type}:∀ {l:List α} {n:Nat} {k k':List α→Prop},(∀ r,k r→k' r)→dropK l n k→dropK l n k'
 | l,0,_,_,hk,h=>by cases l <;> exact hk _ h
 | [],_+1,_,_,_,h=>h.elim
 | _::l,n+1,_,_,hk,h=>dropK_mono (l:=l) (n:=n) hk h
theorem takeK_mono {α:Type}:∀ {l:List α} {n:Nat} {k k':List α→Prop},(∀ r,k r→k' r)→takeK l n k→takeK l n k'
 | l,0,_,_,hk,h=>by cases l <;> exact hk _ h
 | [],_+1,_,_,_,h=>h.elim
 | x::l,n+1,_,_,hk,h=>takeK_mono (l:=l) (n:=n) (fun r hr=>hk _ hr) h
theorem allDK_mono:∀ {l:List AV} {k k':List D→Prop} {e e':Prop},(∀ r,k r→k' r)→(e→e')→allDK l k e→allDK l k' e'
 | [],_,_,_,_,hk,_,h=>hk _ h
 | x::l,_,_,_,_,hk,he,h=>by
  cases x with
  | d y=>exact allDK_mono (l:=l) (fun r hr=>hk _ hr) he h
  | _=>exact he h
theorem aggK_mono {agg:Bool} {cs:List AV} {k k':AV→Prop} (hk:∀ v,k v→k' v) (h:aggK agg cs k):aggK agg cs k':=by
 unfold aggK at *
 cases agg with
 | true=>exact allDK_mono (fun _ h=>hk _ h) (hk _) h
 | false =>
  simp only [cond_false] at h ⊢
  split at h
  ·exact hk _ h
  ·exact h.elim
theorem ldV_mono {li:LI} {x:AV} {k k':AV→Prop} (hk:∀ v,k v→k' v) (h:ldV li x H k):ldV li x H k':=by
 cases x with
 | pt κ o =>
  obtain ⟨B,hB,h⟩:=nthK_ok h
  refine nthK_mk hB ?_
  cases B with
  | none=>exact h.elim
  | some B =>
   cases B with
   | var cs=>exact dropK_mono (fun r hr=>takeK_mono (fun r hr=>aggK_mono hk hr) hr) h
   | arr _ _=>exact h.elim
   | mp _=>exact h.elim
 | _=>exact h.elim
theorem resK_mono {L:Lay} {T:Tp}:∀ (rs:List ResultVar) {k k':List AV→Prop},(∀ vs,k vs→k' vs)→resK L T H rs k→resK L T H rs k'
 | [],_,_,hk,h=>hk _ h
 | .tmp t::rs,_,_,hk,h=>fK_mk (resK_mono rs (fun vs hv=>hk _ hv) (fK_ok h))
 | .cell a t::rs,k,k',hk,h=>by
  obtain ⟨li,hl,h⟩:=nthK_ok h
  refine nthK_mk hl ?_
  cases li with
  | none=>exact h.elim
  | some li=>exact ldV_mono (fun v hv=>resK_mono rs (fun vs hvs=>hk _ hvs) hv) h
def retV:List AV→AV
 | [v]=>v
 | vs=>.tp vs
def retD:List D→AV
 | [d]=>.d d
 | ds=>.tp (ds.map .d)
def resF (tmps:Array Value):ResultVar→Sem Value
 | .tmp t=>pure (tmps.getD t undef)
 | .cell a t=>do loadVar t (← asAddr (tmps.getD a undef))
theorem res_ok {L:Lay} (hL:LayOK P L) {T:Tp} {tmps:Array Value} (hT:∀ t,V X m w (tmps.getD t undef) (getT T t)) (hh:HRel X m H w):∀ (rs:List ResultVar) (k:List AV→Prop),resK L T H rs k →
  ∃ vs avs,(rs.mapM (resF tmps)).run P w=.ok vs w∧vs.length=avs.length∧(∀ (j:Nat) v c,vs[j]?=some v→avs[j]?=some c→V X m w v c)∧k avs
 | [],k,h=>⟨[],[],rfl,rfl,fun j v c h=>by simp at h,h⟩
 | .tmp t::rs,k,h=>by
  replace h:=fK_ok h
  obtain ⟨vs,avs,h1,h2,h3,h4⟩:=res_ok hL hT hh rs _ h
  refine ⟨tmps.getD t undef::vs,getT T t::avs,?_,by simp [h2],fun j v c hv hc=>?_,h4⟩
  ·simp only [List.mapM_cons,resF]
   simp [h1]
  ·cases j with
   | zero=>simp only [List.getElem?_cons_zero,Option.some.injEq] at hv hc; subst hv; subst hc; exact hT t
   | succ j=>exact h3 j v c (by simpa using hv) (by simpa using hc)
 | .cell a t::rs,k,h=>by
  obtain ⟨li,i,u,z,hl,h⟩:=liK_ok hL h
  obtain ⟨v,av,hr,hv,h⟩:=ldV_ok hl (hT a) hh h
  obtain ⟨vs,avs,h1,h2,h3,h4⟩:=res_ok hL hT hh rs _ h
  refine ⟨v::vs,av::avs,?_,by simp [h2],fun j u c hu hc=>?_,h4⟩
  ·rw [List.mapM_cons]
   have:(resF tmps (.cell a t)).run P w=.ok v w:=hr
   rw [Sem.run_bind,this]
   simp [Result.andThen,h1]
  ·cases j with
   | zero=>simp only [List.getElem?_cons_zero,Option.some.injEq] at hu hc; subst hu; subst hc; exact hv
   | succ j=>exact h3 j u c (by simpa using hu) (by simpa using hc)
theorem results_ok {L:Lay} (hL:LayOK P L) {T:Tp} {tmps:Array Value} {fn:Func} (hT:∀ t,V X m w (tmps.getD t undef) (getT T t)) (hh:HRel X m H w) {k:List AV→Prop} (h:resK L T H fn.results.toList k) :
  ∃ v avs,(results fn tmps).run P w=.ok v w∧V X m w v (retV avs)∧k avs:=by
 obtain ⟨vs,avs,h1,h2,h3,h4⟩:=res_ok hL hT hh fn.results.toList k h
 have hm:(fn.results.mapM (resF tmps)).run P w=.ok vs.toArray w:=by
  rw [Array.mapM_eq_mapM_toList]
  simp [h1]
 have hres:results fn tmps=(fn.results.mapM (resF tmps)) >>= fun vs=>pure (if h:vs.size=1 then vs[0] else .tuple vs):=by
  unfold results resF
  congr 2
 rw [hres,Sem.run_bind,hm]
 refine ⟨_,avs,rfl,?_,h4⟩
 match vs,avs,h2,h3 with
 | [],[],_,_=>exact .tp #[] [] rfl fun j v c h=>by simp at h
 | [v],[a],_,h3=>exact h3 0 v a rfl rfl
 | v::v'::vs,a::a'::as,h2,h3 =>
  have:¬ (v::v'::vs).toArray.size=1:=by simp
  rw [dif_neg this]
  exact .tp _ _ (by simpa using h2) fun j u c hu hc=>h3 j u c (by simpa using hu) hc
/- The marks of the loops over functions. -/
theorem Rd.cellsame {I I':Nat→Prop} (hI:∀ b,I b→I' b) (hw:∀ (b o:Nat) v,I b→w.cell? ⟨b,o,none⟩=some v→w'.cell? ⟨b,o,none⟩=some v) {v:Value} {x:D} (h:Rd I w v x):Rd I' w' v x:=by
 induction h with
 | b=>exact .b _
 | i=>exact .i _ _
 | s=>exact .s _
 | nf=>exact .nf
 | np=>exact .np
 | ni=>exact .ni
 | ag vs cs hl h1 _ ih=>exact .ag vs cs hl h1 ih
 | fn f vs cs hl _ ih=>exact .fn f vs cs hl ih
 | fm f vs cs hl _ ih=>exact .fm f vs cs hl ih
 | nil=>exact .nil
 | lz a=>exact .lz a
 | ls bk off cap k es vs hb hc hk hww _ ih =>
  exact .ls bk off cap k es vs (hI _ hb) hc hk (fun j e l c h1 h2=>⟨hw _ _ _ hb (hww j e l c h1 h2).1,(hww j e l c h1 h2).2⟩) ih
 | ro bk off cs vs hb hww _ ih =>
  exact .ro bk off cs vs (hI _ hb) (fun l c h1=>⟨hw _ _ _ hb (hww l c h1).1,(hww l c h1).2⟩) ih
/-- A step that leaves cells alone,and the frame's names. -/
structure Calm (m:Mp) (w w':World):Prop where
 size:w'.heap.size=w.heap.size
 cells:∀ (b:Nat) vs el fz,w.heap[b]?=some (.cells vs el fz)→w'.heap[b]?=some (.cells vs el fz)
 maps:∀ (b:Nat) es ck,w.heap[b]?=some (.map es ck)→w'.heap[b]?=some (.map es ck)
theorem Calm.cell {w w':World} (h:Calm m w w') (b o:Nat) (v:Value) (hc:w.cell? ⟨b,o,none⟩=some v):w'.cell? ⟨b,o,none⟩=some v:=by
 unfold World.cell? at *
 simp only [] at hc ⊢
 cases hb:w.heap[b]? with
 | none=>rw [hb] at hc; simp at hc
 | some x =>
  cases x with
  | cells vs el fz=>rw [hb] at hc; rw [h.cells b vs el fz hb]; exact hc
  | _=>rw [hb] at hc; simp at hc
theorem V.calm (h:Calm m w w') {v:Value} {x:AV} (hv:V X m w v x):V X m w' v x:=by
 induction hv with
 | d v x hr=>exact .d v x (hr.cellsame (fun b hb=>⟨by rw [h.size]; exact hb.1,hb.2⟩) fun b o v _=>h.cell b o v)
 | ag vs cs hl h1 _ ih=>exact .ag vs cs hl h1 ih
 | tp vs cs hl _ ih=>exact .tp vs cs hl ih
 | fn f vs cs hl _ ih=>exact .fn f vs cs hl ih
 | fm f vs cs hl _ ih=>exact .fm f vs cs hl ih
 | sl v κ k off n hκ h1 hh h0 =>
  refine .sl v κ k off n hκ h1 (fun b hb=>?_) h0
  obtain ⟨cap,e,hn,vs,el,fz,hg,hr⟩:=hh b hb
  exact ⟨cap,e,hn,vs,el,fz,h.cells b vs el fz hg,hr⟩
 | pe v κ k j off hκ h1 hh h0=>exact .pe v κ k j off hκ h1 hh h0
 | mr v κ hκ h1 hh h0=>exact .mr v κ hκ h1 hh h0
 | pt v κ off hκ h1 hh h0=>exact .pt v κ off hκ h1 hh h0
 | nsl=>exact .nsl
 | yl l=>exact .yl l
 | mx b=>exact .mx b
 | cv v=>exact .cv v
 | vw v κ k off n hκ hh h0=>exact .vw v κ k off n hκ hh h0
 | un v=>exact .un v
theorem BRel.calm (h:Calm m w w') {vs:Array Value} {B:Blk} (hb:BRel X m w vs B):BRel X m w' vs B:=by
 cases B with
 | var cs=>exact fun j c hc=>let ⟨v,e,hv⟩:=hb j c hc; ⟨v,e,hv.1.calm h,hv.2⟩
 | arr k es=>exact ⟨hb.1,fun j e l c h1 h2=>let ⟨v,e,hv⟩:=hb.2 j e l c h1 h2; ⟨v,e,hv.1.calm h,hv.2⟩⟩
 | mp E=>exact hb
theorem MRel.calm (h:Calm m w w') {es:Array MapEntry} {E:List (D × D)} (hm:MRel X m w es E):MRel X m w' es E :=
 ⟨hm.1,fun j k d he=>let ⟨e,h1,h2,h3,h4⟩:=hm.2 j k d he; ⟨e,h1,h2.cellsame (fun b hb=>⟨by rw [h.size]; exact hb.1,hb.2⟩) (fun b o v _=>h.cell b o v),h3.cellsame (fun b hb=>⟨by rw [h.size]; exact hb.1,hb.2⟩) (fun b o v _=>h.cell b o v),h4⟩⟩
theorem HRel.calm (h:Calm m w w') (hh:HRel X m H w):HRel X m H w' where
 len:=hh.len
 blk κ B hB:=by
  rcases hh.blk κ B hB with ⟨b,vs,el,h1,h2,h3⟩ | h1 | ⟨E,b,es,ck,e1,e2,e3,e4⟩
  ·exact .inl ⟨b,vs,el,h1,h.cells _ _ _ _ h2,h3.calm h⟩
  ·exact .inr (.inl h1)
  ·exact .inr (.inr ⟨E,b,es,ck,e1,e2,h.maps _ _ _ e3,e4.calm h⟩)
 inj:=hh.inj
 lt κ b hb:=by rw [h.size]; exact hh.lt κ b hb
 old b hb:=by rw [h.size]; exact hh.old b hb
 tab:=⟨fun g cs hg=>let ⟨⟨el,fz,h1⟩,h2,h3⟩:=hh.tab.get g cs hg; ⟨⟨el,fz,h.cells _ _ _ _ h1⟩,h2,h3⟩⟩
theorem Calm.putObj {D:Nat} {o o':Obj} (h:w.heap[D]?=some o) (ho:∀ vs el fz,o≠.cells vs el fz) (hm:∀ es ck,o≠.map es ck:=by intro _ _ h; cases h):Calm m w (w.putObj D o') where
 size:=by simp [World.putObj]
 maps b es ck hb:=by
  have:b≠D:=by
   intro e; subst e
   rw [h] at hb
   exact hm es ck (by simpa using hb)
  exact (World.putObj_heap_other this).trans hb
 cells b vs el fz hb:=by
  have:b≠D:=by
   intro e; subst e
   rw [h] at hb
   exact ho vs el fz (by simpa using hb)
  exact (World.putObj_heap_other this).trans hb
theorem Ext.putObj {mb:Mp} {wb:World} {D:Nat} {o o':Obj} (hx:Ext X mb wb m w) (h:w.heap[D]?=some o) (ho:∀ vs el fz,o≠.cells vs el fz) (hD:wb.heap.size≤D) (hm:∀ es ck,o≠.map es ck:=by intro _ _ h; cases h):Ext X mb wb m (w.putObj D o') where
 out:=hx.out
 keep b hb hm:=by
  obtain ⟨h1,h2⟩:=hx.keep b hb hm
  exact ⟨(World.putObj_heap_other (by omega)).trans h1,h2⟩
 size:=by simpa [World.putObj] using hx.size
 len:=hx.len
 same:=hx.same
 room b n hr:=by
  obtain ⟨vs,el,fz,hg,hn⟩:=hx.room b n hr
  exact ⟨vs,el,fz,(Calm.putObj (m:=m) h ho hm).cells _ _ _ _ hg,hn⟩
theorem leaves_marksD {F:Fence} {n:Nat} {fn:Func} {tmps:Array Value} {mb:Mp} {wb:World} {R:Ending→World→Prop} {ds:List Deferred} {u:FrameMode} (hu:u≠.run) (hR:∀ w',Calm m w w'→Ext X mb wb m w'→LeavesInM F n P fn tmps R ds u w') :
  ∀ (ms:List Nat),ms.Nodup→(∀ D ∈ ms,w.heap[D]?=some (.deferred (some []))∧wb.heap.size≤D)→Ext X mb wb m w→LeavesInM F n P fn tmps R (marks ms++ds) u w:=by
 intro ms
 induction ms generalizing w with
 | nil =>
  intro _ _ hx
  exact hR w ⟨rfl,fun _ _ _ _ h=>h,fun _ _ _ h=>h⟩ hx
 | cons D ms ih =>
  intro hnd hd hx
  obtain ⟨h1,h2⟩:=hd D (by simp)
  have hc:Calm m w (w.putObj D (.deferred none)):=Calm.putObj h1 (fun _ _ _ h=>by cases h)
  have hx':Ext X mb wb m (w.putObj D (.deferred none)):=hx.putObj h1 (fun _ _ _ h=>by cases h) h2
  refine ⟨hu,.inl ⟨D,_,rfl,run_takeDeferred h1,?_⟩⟩
  refine ih (fun w' hc' hx''=>hR w' ⟨hc'.size.trans hc.size,fun b vs el fz hb=>hc'.cells _ _ _ _ (hc.cells _ _ _ _ hb),fun b es ck hb=>hc'.maps _ _ _ (hc.maps _ _ _ hb)⟩ hx'') (List.nodup_cons.1 hnd).2 (fun D' hD'=>?_) hx'
  obtain ⟨g1,g2⟩:=hd D' (by simp [hD'])
  have hne:D'≠D:=fun e=>(List.nodup_cons.1 hnd).1 (e ▸ hD')
  exact ⟨(World.putObj_heap_other hne).trans g1,g2⟩
theorem leaves_marks {F:Fence} {n:Nat} {fn:Func} {tmps:Array Value} {mb:Mp} {wb:World} {R:Ending→World→Prop} (hR:∀ w',Calm m w w'→Ext X mb wb m w'→∃ v,(results fn tmps).run P w'=.ok v w'∧R (.returned v) w')
  (ms:List Nat) (hnd:ms.Nodup) (hd:∀ D ∈ ms,w.heap[D]?=some (.deferred (some []))∧wb.heap.size≤D) (hx:Ext X mb wb m w):LeavesInM F n P fn tmps R (marks ms) .returning w:=by
 have:=leaves_marksD (F:=F) (n:=n) (P:=P) (fn:=fn) (tmps:=tmps) (R:=R) (ds:=[]) (u:=.returning) (by simp) (fun w' h1 h2=>hR w' h1 h2) ms hnd hd hx
 rwa [List.append_nil] at this
def EndP (L:Lay) (fn:Func) (R:AV→Hp→Prop):Post:=fun e T H=>match e with
 | .normal | .ret=>resK L T H fn.results.toList fun vs=>R (retV vs) H
 | _=>False
def argT:Nat→List AV→Tp
 | _,[]=>[]
 | i,a::l=>(i,a)::argT (i+1) l
theorem getT_argT:∀ (l:List AV) (i t:Nat),getT (argT i l) t=if i≤t then (l[t - i]?).getD .un else .un
 | [],i,t=>by simp [argT,getT]
 | a::l,i,t=>by
  simp only [argT,getT]
  by_cases e:i=t
  ·subst e; simp
  ·have hb:Nat.beq i t=false:=by
    cases hq:Nat.beq i t with
    | false=>rfl
    | true=>exact absurd (Nat.eq_of_beq_eq_true hq) e
   simp only [hb,cond_false]
   rw [getT_argT l (i+1) t]
   by_cases h:i≤t
   ·rw [if_pos (by omega),if_pos h]
    have:t - i=(t - (i+1))+1:=by omega
    rw [this]; simp
   ·rw [if_neg (by omega),if_neg h]
theorem Rel.start {vals:Array Value} {args:List AV} {N:Nat} (hs:vals.size=args.length) (hv:∀ (j:Nat) v c,vals[j]?=some v→args[j]?=some c→V X m w v c) (hh:HRel X m H w) (hN:args.length≤N) :
  Rel X m w N m (argT 0 args) H { tmps:=vals++Array.replicate (N - vals.size) undef,defers:=[] } w where
 ext:=.refl _ _ _
 size:=by simp; omega
 tmp t:=by
  rw [getT_argT]
  simp only [Nat.zero_le,if_true,Nat.sub_zero]
  cases ha:args[t]? with
  | none=>exact .un _
  | some c =>
   have hlt:=(List.getElem?_eq_some_iff.1 ha).1
   have hvt:vals[t]?=some vals[t]:=Array.getElem?_eq_getElem (by omega)
   have:(vals++Array.replicate (N - vals.size) undef).getD t undef=vals[t]:=by
    rw [Array.getD_eq_getD_getElem?,Array.getElem?_append_left (by omega),hvt]
    rfl
   rw [this]
   exact hv t _ c hvt ha
 heap:=hh
 defers:=⟨[],rfl,List.nodup_nil,fun D h=>by cases h⟩
theorem calls_of_tr {cx:Cx} (hL:LayOK P cx.L) {f:FuncId} {fn:Func} {c:Code} (hf:P.funcs[f]?=some fn) (hb:fn.body=some c) {args:List AV} {R:AV→Hp→Prop}
  (hN:cx.N=fn.ntmps) (hro:cx.ro=none) (hF:cx.F=H.length) (hlen:args.length≤fn.ntmps) (h:Tr P cx c (argT 0 args) H (EndP cx.L fn R)) {vals:Array Value} (hs:vals.size=args.length) (hv:∀ (j:Nat) v c,vals[j]?=some v→args[j]?=some c→V X m w v c) (hh:HRel X m H w) :
  CallsIn Fence.wide 0 P f vals w fun e w'=>∃ v m' r H',e=.returned v∧V X m' w' v r∧HRel X m' H' w'∧Ext X m w m' w'∧R r H':=by
 refine callsIn_of_wpX_marks hf hb trivial ?_
 unfold Tr at h
 have h1:=h X m w m _ w (by rw [hF]; exact hh.len) (Rel.start hs hv hh (by rw [hN]; exact hlen))
 rw [hro,Fw_none,hN] at h1
 refine wpX_mono h1 ?_
 rintro e a w' ⟨m',T,H',hr,hq⟩
 have fin:resK cx.L T H' fn.results.toList (fun vs=>R (retV vs) H')→LeavesInM Fence.wide 0 P fn a.tmps (fun e w'=>∃ v m' r H',e=.returned v∧V X m' w' v r∧HRel X m' H' w'∧Ext X m w m' w'∧R r H') a.defers .returning w':=by
  intro hq
  obtain ⟨ms,e,nd,hd⟩:=hr.defers
  rw [e,dsv_nil,List.append_nil]
  refine leaves_marks (fun w2 hc hx2=>?_) ms nd (fun D hD=>⟨(hd D hD).1.1,(hd D hD).2⟩) hr.ext
  have hh2:HRel X m' H' w2:=hr.heap.calm hc
  obtain ⟨v,avs,g1,g2,g3⟩:=results_ok (fn:=fn) hL (fun t=>(hr.tmp t).calm hc) hh2 hq
  exact ⟨v,g1,v,m',_,H',rfl,g2,hh2,hx2,g3⟩
 cases e with
 | normal=>exact fin hq
 | ret=>exact fin hq
 | _=>exact hq.elim
theorem ECall.of_tr {cx : Cx} (hL : LayOK P cx.L) {f : FuncId} {fn : Func} {c : Code} (hf : P.funcs[f]? = some fn) (hb : fn.body = some c) (hn : (fn.name == "runtime.NumGoroutine") = false) {args : List AV} {R : AV → Hp → Prop}
  (hN:cx.N=fn.ntmps) (hro:cx.ro=none) (hF:cx.F=H.length) (hlen:args.length≤fn.ntmps) (h:Tr P cx c (argT 0 args) H (EndP cx.L fn R)):ECall P f args H R:=by
 unfold ECall
 exact ⟨⟨fn,c,hf,hb,hn⟩,fun X m vals w hs hv hh=>calls_of_tr hL hf hb hN hro hF hlen h hs hv hh⟩
@[irreducible] def PC (P:Program) (f:FuncId) (ds:List D) (R:List D→Prop):Prop :=
 EnterOK P f∧∀ (X:Nat→Prop) (vals:Array Value) (w:World),vals.size=ds.length→(∀ (j:Nat) v c,vals[j]?=some v→ds[j]?=some c→Rd (Imm X [] w) w v c)→(∀ b,X b→b < w.heap.size)→TabX X [] w →
  CallsIn Fence.wide 0 P f vals w fun e w'=>∃ v rs,e=.returned v∧V X [] w' v (retD rs)∧Ext X [] w [] w'∧R rs
theorem PC.mono {f:FuncId} {ds:List D} {R R':List D→Prop} (h:PC P f ds R) (hr:∀ rs,R rs→R' rs):PC P f ds R':=by
 unfold PC at *
 refine ⟨h.1,fun X vals w hs hv hX ht=>(h.2 X vals w hs hv hX ht).mono ?_⟩
 rintro e w' ⟨v,rs,a,b,c,d⟩
 exact ⟨v,rs,a,b,c,hr _ d⟩
theorem vwider {X X':Nat→Prop} {m m':Mp} {w:World} (hI:∀ b,Imm X m w b→Imm X' m' w b) {v:Value} {rs:List D} (h:V X m w v (retD rs)):V X' m' w v (retD rs):=by
 have one:∀ {v:Value} {d:D},V X m w v (.d d)→V X' m' w v (.d d):=by
  intro v d h
  cases h with
  | d _ _ hr=>exact .d _ _ (hr.mono fun b hb=>⟨hI b hb,rfl⟩)
 match rs with
 | [d]=>exact one h
 | []=>cases h with | tp vs cs hl hc=>exact .tp vs _ hl fun j v c hv hc'=>by simp at hc'
 | d::d'::ds =>
  cases h with
  | tp vs cs hl hc =>
   refine .tp vs _ hl fun j v c hv hcx=>?_
   have h1:=hc j v c hv hcx
   simp only [List.getElem?_map,Option.map_eq_some_iff] at hcx
   obtain ⟨c',_,rfl⟩:=hcx
   exact one h1
mutual
def scal:D→Bool
 | .b _ | .i _ _ | .s _ | .nf | .np | .ni=>true
 | .ag cs | .fn _ cs | .fm _ cs=>scalL cs
 | .ls es=>match es with | []=>false | _=>false
 | .ro _=>false
def scalL:List D→Bool
 | []=>true
 | x::l=>scal x && scalL l
end
theorem scalL_get:∀ {l:List D},scalL l=true→∀ (j:Nat) c,l[j]?=some c→scal c=true
 | [],_,j,c,h=>by simp at h
 | x::l,h,0,c,hc=>by simp [scalL] at h; simp at hc; subst hc; exact h.1
 | x::l,h,j+1,c,hc=>by simp [scalL] at h; exact scalL_get (l:=l) h.2 j c (by simpa using hc)
theorem Rd.scalar {I I':Nat→Prop} {v:Value} {d:D} (h:Rd I w v d) (hs:scal d=true):Rd I' w' v d:=by
 induction h with
 | b=>exact .b _
 | i=>exact .i _ _
 | s=>exact .s _
 | nf=>exact .nf
 | np=>exact .np
 | ni=>exact .ni
 | ag vs cs hl h1 _ ih=>exact .ag vs cs hl h1 fun j v c hv hc=>ih j v c hv hc (scalL_get hs j c hc)
 | fn f vs cs hl _ ih=>exact .fn f vs cs hl fun j v c hv hc=>ih j v c hv hc (scalL_get hs j c hc)
 | fm f vs cs hl _ ih=>exact .fm f vs cs hl fun j v c hv hc=>ih j v c hv hc (scalL_get hs j c hc)
 | nil=>simp [scal] at hs
 | lz a=>simp [scal] at hs
 | ls bk off cap k es vs hb hc hk hww _ ih=>unfold scal at hs; split at hs <;> simp at hs
 | ro bk off cs vs hb hww _ ih=>simp [scal] at hs
theorem vscalar {rs:List D} {v:Value} (h:V X m w v (retD rs)) (hs:scalL rs=true) {X':Nat→Prop} {m':Mp}:V X' m' w' v (retD rs):=by
 have one:∀ {v:Value} {d:D},scal d=true→V X m w v (.d d)→V X' m' w' v (.d d):=by
  intro v d hs h
  cases h with
  | d _ _ hr=>exact .d _ _ (hr.scalar hs)
 match rs with
 | [d]=>exact one (by simpa [scalL] using hs) h
 | []=>cases h with | tp vs cs hl hc=>exact .tp vs _ hl fun j v c hv hc'=>by simp at hc'
 | d::d'::ds =>
  cases h with
  | tp vs cs hl hc =>
   refine .tp vs _ hl fun j v c hv hcx=>?_
   have h1:=hc j v c hv hcx
   simp only [List.getElem?_map,Option.map_eq_some_iff] at hcx
   obtain ⟨c',hc',rfl⟩:=hcx
   exact one (scalL_get hs j c' hc') h1
theorem Ext.of_pure {X0:Nat→Prop} (h:Ext X0 [] w [] w'):Ext X m w m w' where
 keep b hb hm:=⟨(h.keep b hb (by simp)).1,hm⟩
 size:=h.size
 len:=Nat.le_refl _
 same κ e _ he:=.inr he
 room:=h.room
 out:=h.out
theorem PC.ecall {f:FuncId} {ds:List D} {R:List D→Prop} (h:PC P f ds R) {Q:AV→Hp→Prop} (hq:∀ rs,R rs→Q (retD rs) H):ECall P f (ds.map .d) H Q:=by
 unfold PC at h
 unfold ECall
 refine ⟨h.1,fun X m vals w hs hv hh=>?_⟩
 let X0:Nat→Prop:=fun b=>X b∨.blk b ∈ m
 have hI:∀ {w:World} b,Imm X0 [] w b↔Imm X m w b:=fun {w} b =>
  ⟨fun h=>⟨h.1,fun hx=>h.2.1 (.inl hx),fun hx=>h.2.1 (.inr hx)⟩,fun h=>⟨h.1,fun hx=>hx.elim h.2.1 h.2.2,by simp⟩⟩
 refine (h.2 X0 vals w (by simpa using hs) (fun j v c hvj hc=>?_) (fun b hb=>?_) ⟨fun g cs hg=>let ⟨h1,h2,h3⟩:=hh.tab.get g cs hg; ⟨h1,fun hx=>hx.elim h2 h3,by simp⟩⟩).mono ?_
 ·have:=hv j v (.d c) hvj (by simp [hc])
  cases this with
  | d _ _ hr=>exact hr.mono fun b hb=>⟨(hI b).2 hb,rfl⟩
 ·rcases hb with hb | hb
  ·exact hh.old b hb
  ·obtain ⟨κ,hκ⟩:=get_of_mem hb
   exact (hh.lt κ b hκ).1
 ·rintro e w' ⟨v,rs,rfl,h1,h2,h3⟩
  have hx:Ext X m w m w':=h2.of_pure
  exact ⟨v,m,_,H,rfl,vwider (fun b hb=>(hI b).1 hb) h1,hh.ext_same hx (fun κ b hκ=>(h2.keep b (hh.lt κ b hκ).1 (by simp)).1),hx,hq rs h3⟩
theorem PC.ecall_frz {f:FuncId} {args:List AV} {Q:AV→Hp→Prop} (h:mapK (frz 8) args H fun ds H'=>∃ R,PC P f ds R∧∀ rs,R rs→Q (retD rs) H') (hen:EnterOK P f):ECall P f args H Q:=by
 unfold ECall
 refine ⟨hen,fun X m vals w hs hv hh=>?_⟩
 obtain ⟨m',H',ds,hh',hx,⟨hl,hd⟩,R,hpc,hq⟩:=mapK_ok (frz_ok 8) args H _ m vals.toList h ⟨by simpa using hs,fun j v c hvj hc=>hv j v c (by simpa using hvj) hc⟩ hh
 have he:=hpc.ecall (H:=H') hq
 unfold ECall at he
 refine (he.2 X m' vals w (by simpa using hl) (fun j v c hvj hc=>?_) hh').mono ?_
 ·simp only [List.getElem?_map,Option.map_eq_some_iff] at hc
  obtain ⟨c',hc',rfl⟩:=hc
  exact .d _ _ (hd j v c' (by simpa using hvj) hc')
 ·rintro e w' ⟨v,m2,r,H2,h1,h2,h3,h4,h5⟩
  exact ⟨v,m2,r,H2,h1,h2,h3,hx.trans h4,h5⟩
theorem PC.ecall_lend {f:FuncId} {args:List AV} {Q:AV→Hp→Prop} (h:mapK (frz 8) args H fun ds _=>∃ R,PC P f ds R∧∀ rs,R rs→scalL rs=true∧Q (retD rs) H) (hen:EnterOK P f):ECall P f args H Q:=by
 unfold ECall
 refine ⟨hen,fun X m vals w hs hv hh=>?_⟩
 obtain ⟨m',H',ds,hh',hx,⟨hl,hd⟩,R,hpc,hq⟩:=mapK_ok (frz_ok 8) args H _ m vals.toList h ⟨by simpa using hs,fun j v c hvj hc=>hv j v c (by simpa using hvj) hc⟩ hh
 unfold PC at hpc
 refine (hpc.2 X vals w (by simpa using hl) (fun j v c hvj hc=>(hd j v c (by simpa using hvj) hc).mono fun b hb=>⟨⟨hb.1,hb.2.1,by simp⟩,rfl⟩) hh.old hh.tab.nil).mono ?_
 rintro e w' ⟨v,rs,rfl,h1,h2,h3⟩
 have hx2:Ext X m w m w':=h2.of_pure
 exact ⟨v,m,_,H,rfl,vscalar h1 (hq rs h3).1,hh.ext_same hx2 (fun κ b hκ=>(h2.keep b (hh.lt κ b hκ).1 (by simp)).1),hx2,(hq rs h3).2⟩
def EndD (L:Lay) (fn:Func) (R:List D→Prop):Post:=fun e T H=>match e with
 | .normal | .ret=>resK L T H fn.results.toList fun vs=>mapK (frz 8) vs H fun ds _=>R ds
 | _=>False
theorem retV_retD {avs:List AV} {v:Value} (h:V X m w v (retV avs)) {k:List D→Hp→Prop} (hk:mapK (frz 8) avs H k) (hh:HRel X m H w):∃ m' H' ds,HRel X m' H' w∧Ext X m w m' w∧V X m' w v (retD ds)∧k ds H':=by
 match avs with
 | [a] =>
  obtain ⟨m',H',ds,h1,h2,⟨h3,h4⟩,h5⟩:=mapK_ok (frz_ok 8) [a] H k m [v] hk ⟨rfl,fun j u c hu hc=>by
   cases j with
   | zero=>simp at hu hc; subst hu; subst hc; exact h
   | succ j=>simp at hu⟩ hh
  match ds,h3 with
  | [d],_=>exact ⟨m',H',[d],h1,h2,.d _ _ (h4 0 v d rfl rfl),h5⟩
 | [] =>
  refine ⟨m,H,[],hh,.refl _ _ _,h,hk⟩
 | a::a'::as =>
  cases h with
  | tp vs cs hl hc =>
   obtain ⟨m',H',ds,h1,h2,⟨h3,h4⟩,h5⟩:=mapK_ok (frz_ok 8) _ H k m vs.toList hk ⟨by simpa using hl,fun j u c hu hcx=>hc j u c (by simpa using hu) hcx⟩ hh
   refine ⟨m',H',ds,h1,h2,?_,h5⟩
   have hlen:ds.length=as.length+2:=by
    have:vs.toList.length=as.length+2:=by simpa using hl
    omega
   match ds,hlen with
   | d::d'::ds,_ =>
    refine .tp vs _ (by simpa using h3) fun j u c hu hcx=>?_
    simp only [List.getElem?_map,Option.map_eq_some_iff] at hcx
    obtain ⟨c',hc',rfl⟩:=hcx
    exact .d _ _ (h4 j u c' (by simpa using hu) hc')
theorem PC.of_tr {cx : Cx} (hL : LayOK P cx.L) {f : FuncId} {fn : Func} {c : Code} (hf : P.funcs[f]? = some fn) (hb : fn.body = some c) (hn : (fn.name == "runtime.NumGoroutine") = false) {ds : List D} {R : List D → Prop}
  (hN:cx.N=fn.ntmps) (hro:cx.ro=none) (hF:cx.F=0) (hlen:ds.length≤fn.ntmps) (h:Tr P cx c (argT 0 (ds.map .d)) [] (EndD cx.L fn R)):PC P f ds R:=by
 unfold PC
 refine ⟨⟨fn,c,hf,hb,hn⟩,fun X vals w hs hv hX ht=>?_⟩
 have hh:HRel X [] [] w:=⟨rfl,fun κ B h=>by simp at h,fun κ κ' b h=>by simp at h,fun κ b h=>by simp at h,hX,ht⟩
 have h':Tr P cx c (argT 0 (ds.map .d)) [] (EndP cx.L fn fun r H'=>∃ avs,r=retV avs∧mapK (frz 8) avs H' fun ds _=>R ds):=by
  refine h.mono ?_
  rintro e T H hq
  cases e with
  | normal=>exact resK_mono _ (fun vs h=>⟨vs,rfl,h⟩) hq
  | ret=>exact resK_mono _ (fun vs h=>⟨vs,rfl,h⟩) hq
  | _=>exact hq
 refine (calls_of_tr (H:=[]) hL hf hb hN hro hF (by simpa using hlen) h' (by simpa using hs) (fun j v c hvj hc=>?_) hh).mono ?_
 ·simp only [List.getElem?_map,Option.map_eq_some_iff] at hc
  obtain ⟨c',hc',rfl⟩:=hc
  exact .d _ _ (hv j v c' hvj hc')
 ·rintro e w' ⟨v,m',r,H',rfl,hV,hh',hx,avs,rfl,hk⟩
  obtain ⟨m2,H2,ds2,h1,h2,h3,h4⟩:=retV_retD hV hk hh'
  refine ⟨v,ds2,rfl,vwider (fun b hb=>⟨hb.1,hb.2.1,by simp⟩) h3,?_,h4⟩
  have hx2:=hx.trans h2
  exact ⟨fun b hb _=>⟨(hx2.keep b hb (by simp)).1,by simp⟩,hx2.size,Nat.le_refl _,fun κ e hκ=>by simp at hκ,hx2.room,hx2.out⟩
end Go.Abs
