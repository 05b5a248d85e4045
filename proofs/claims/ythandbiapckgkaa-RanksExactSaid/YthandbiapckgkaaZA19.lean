/- Regions that draw their order, and call yield. No condition. -/
import Derived.Test.YthandbiapckgkaaZA18
import Derived.Test.YthandbiapckgkaaZB2
namespace Go.Abs
variable {P:Program} {X:Nat→Prop} {m m':Mp} {H:Hp} {w w':World}
def AnyZ (P:Program) (cx:Cx) (W:List (Nat × Nat)) (ops:Array Oper) (L0:Array Bool) (Z:Tp→Hp→Prop):Nat→Array Bool→Tp→Hp→Prop
 | 0,listed,T,H=>listed=L0∧KK Z T H
 | fuel+1,listed,T,H=>Region.ready .any ops listed≠[] ∧
  ∀ i ∈ Region.ready .any ops listed,∃ o v H',ops[i]?=some o∧opX P cx.L ops o T H v H'∧Kp W i H H'∧putB cx.N o.dst=true∧AnyZ P cx W ops L0 Z fuel (listed.setIfInBounds i true) (putT o.dst v T) H'
theorem AnyZ.congr {cx:Cx} {W:List (Nat × Nat)} {ops:Array Oper} {L0:Array Bool} {Z:Tp→Hp→Prop}:∀ (fuel:Nat) (listed:Array Bool) (T T':Tp) (H:Hp),sameT T T'→AnyZ P cx W ops L0 Z fuel listed T H→AnyZ P cx W ops L0 Z fuel listed T' H
 | 0,_,_,_,_,hs,⟨h,T0,h1,h2⟩=>⟨h,T0,hs.symm.trans h1,h2⟩
 | fuel+1,_,_,_,_,hs,⟨h1,h2⟩=>⟨h1,fun i hi =>
   let ⟨o,v,H',a,b,c,d,e⟩:=h2 i hi
   ⟨o,v,H',a,opX_congr (fun t _=>hs t) b,c,d,AnyZ.congr fuel _ _ _ _ (hs.put o.dst v) e⟩⟩
def Closed (ops:Array Oper) (listed:Array Bool):Prop:=∀ (j:Nat) oj,ops[j]?=some oj→listed.getD j false=true→∀ e ∈ oj.after,Region.binds .any e=true→listed.getD e.on true=true
def closedB (ops:Array Oper) (listed:Array Bool):Bool :=
 (List.range ops.size).all fun j=>bif listed.getD j false then (match ops[j]? with
  | some o=>o.after.all fun e=>!(Region.binds .any e) || listed.getD e.on true
  | none=>true) else true
theorem Closed.test {ops:Array Oper} {listed:Array Bool} (h:Closed ops listed):closedB ops listed=true:=by
 unfold closedB
 rw [List.all_eq_true]
 intro j _
 cases hl:listed.getD j false with
 | false=>rfl
 | true =>
  rw [cond_true]
  cases ho:ops[j]? with
  | none=>rfl
  | some o =>
   simp only [Array.all_eq_true_iff_forall_mem]
   intro e he
   cases hb:Region.binds .any e with
   | false=>rfl
   | true=>rw [h j o ho hl e he hb]; rfl
theorem Closed.of_test {ops:Array Oper} {listed:Array Bool} (h:closedB ops listed=true):Closed ops listed:=by
 intro j oj ho hl e he hb
 unfold closedB at h
 have:=List.all_eq_true.1 h j (List.mem_range.2 (Array.getElem?_eq_some_iff.1 ho).1)
 rw [hl,cond_true,ho] at this
 simp only [Array.all_eq_true_iff_forall_mem] at this
 have:=this e he
 rw [hb] at this
 simpa using this
theorem getD_mono {listed:Array Bool} {i k:Nat} (h:listed.getD k true=true):(listed.setIfInBounds i true).getD k true=true:=by
 by_cases hk:i=k
 ·subst hk
  rw [Array.getD_eq_getD_getElem?]
  rcases Nat.lt_or_ge i listed.size with h' | h'
  ·simp [h']
  ·simp [Array.getElem?_eq_none h']
 ·rw [getD_set_ne true hk]; exact h
theorem Closed.next {ops:Array Oper} {listed:Array Bool} (h:Closed ops listed) {i:Nat} (hr:i ∈ Region.ready .any ops listed):Closed ops (listed.setIfInBounds i true):=by
 intro j oj ho hl e he hb
 by_cases hij:i=j
 ·subst hij
  obtain ⟨_,oi,hoi,hall⟩:=mem_ready.1 hr
  rw [hoi] at ho
  obtain rfl:oi=oj:=by simpa using ho
  have h1:=hall e he hb
  refine getD_mono ?_
  rcases Nat.lt_or_ge e.on listed.size with h' | h'
  ·simpa [h'] using h1
  ·simp [Array.getElem?_eq_none h']
 ·refine getD_mono (h j oj ho ?_ e he hb)
  rw [getD_set_ne false hij] at hl; exact hl
def tailB (ops:Array Oper) (L0:Array Bool):Bool :=
 (List.range L0.size).all fun i=>bif L0.getD i false && closedB ops (L0.setIfInBounds i false) then (Region.ready .any ops (L0.setIfInBounds i false)).all (Nat.beq i) else true
theorem tailB_spec {ops:Array Oper} {L0 listed:Array Bool} {i:Nat} (hcl:Closed ops listed) (h:tailB ops L0=true) (hi:i < listed.size) (hu:listed.getD i true=false) (he:listed.setIfInBounds i true=L0):∀ j ∈ Region.ready .any ops listed,j=i:=by
 have hsz:listed.size=L0.size:=by rw [← he]; simp
 have hl:listed=L0.setIfInBounds i false:=by
  rw [← he]
  apply Array.ext
  ·simp
  ·intro k h1 h2
   rw [Array.getElem_setIfInBounds (by simpa using h1)]
   by_cases hk:i=k
   ·subst hk
    rw [if_pos rfl]
    rw [Array.getD_eq_getD_getElem?] at hu
    simpa [h1] using hu
   ·rw [if_neg hk,Array.getElem_setIfInBounds (by simpa using h1),if_neg hk]
 unfold tailB at h
 have h1:=List.all_eq_true.1 h i (List.mem_range.2 (by omega))
 have h2:L0.getD i false=true:=by
  rw [← he,Array.getD_eq_getD_getElem?]
  simp [hi]
 rw [h2,← hl,hcl.test,Bool.and_self,cond_true] at h1
 intro j hj
 exact (Nat.eq_of_beq_eq_true (List.all_eq_true.1 h1 j hj)).symm
theorem AnyZ.take {cx:Cx} {W:List (Nat × Nat)} {ops:Array Oper} {L0:Array Bool} {Z:Tp→Hp→Prop} (hz:tailB ops L0=true) {i:Nat} {oi:Oper} {v:AV} (hi:ops[i]?=some oi) (hp:putB cx.N oi.dst=true) :
  ∀ (fuel:Nat) (listed:Array Bool) (T:Tp) (H:Hp),Closed ops listed →
   (∀ (j:Nat) oj,ops[j]?=some oj→j≠i→listed.getD j true=false→(∀ e ∈ oj.after,Region.binds .any e=true→e.on≠i)→oi.apart ops oj=true) →
   i ∈ Region.ready .any ops listed→Steady P cx.L W ops listed i oi T H v →
   AnyZ P cx W ops L0 Z fuel (listed.setIfInBounds i true) (putT oi.dst v T) H→AnyZ P cx W ops L0 Z (fuel+1) listed T H:=by
 intro fuel
 induction fuel with
 | zero =>
  intro listed T H hcl _ hr hy h
  have hun:=(mem_ready.1 hr).1
  have hlt:i < listed.size:=by
   rcases Nat.lt_or_ge i listed.size with h' | h'
   ·exact h'
   ·simp [Array.getElem?_eq_none h'] at hun
  have hun':listed.getD i true=false:=by
   rw [Array.getD_eq_getD_getElem?]
   simpa [hlt] using hun
  refine ⟨fun h0=>(by rw [h0] at hr; cases hr),fun j hj=>?_⟩
  obtain rfl:=tailB_spec hcl hz hlt hun' h.1 j hj
  exact ⟨oi,v,H,hi,hy.opX,.refl _ _ _,hp,h⟩
 | succ fuel ih =>
  intro listed T H hcl hfree hr hy h
  refine ⟨fun h0=>(by rw [h0] at hr; cases hr),fun j hj=>?_⟩
  by_cases hji:j=i
  ·subst hji; exact ⟨oi,v,H,hi,hy.opX,.refl _ _ _,hp,h⟩
  ·obtain ⟨o,u,H',ho,hx,hag,hpj,hA⟩:=h.2 j (ready_mono hj hji)
   obtain ⟨hjun,oj,hoj,hall⟩:=mem_ready.1 hj
   rw [hoj] at ho
   obtain rfl:oj=o:=by simpa using ho
   have hnot:∀ e ∈ oj.after,Region.binds .any e=true→e.on≠i:=fun e he hb heq=>by
    have h1:=hall e he hb
    have h0:=(mem_ready.1 hr).1
    rw [heq] at h1
    rcases Nat.lt_or_ge i listed.size with h' | h'
    ·simp [h'] at h0 h1; rw [h0] at h1; cases h1
    ·simp [Array.getElem?_eq_none h'] at h1
   have hrdy:∀ e ∈ oj.after,Region.binds .any e=true→listed.getD e.on true=true:=fun e he hb=>by
    have h1:=hall e he hb
    rcases Nat.lt_or_ge e.on listed.size with h' | h'
    ·simpa [h'] using h1
    ·simp [Array.getElem?_eq_none h'] at h1
   obtain ⟨h1,h2,h3⟩:=Oper.apart_spec (hfree j oj hoj hji hjun hnot)
   have hfree':∀ (k:Nat) ok,ops[k]?=some ok→k≠i→(listed.setIfInBounds j true).getD k true=false →
     (∀ e ∈ ok.after,Region.binds .any e=true→e.on≠i)→oi.apart ops ok=true:=fun k ok hk hki hun hno=>by
    refine hfree k ok hk hki ?_ hno
    by_cases hjk:j=k
    ·subst hjk; exact hjun
    ·rw [getD_set_ne true hjk] at hun; exact hun
   refine ⟨oj,u,H',hoj,opX_congr (fun t ht=>?_) hx,hag,hpj,?_⟩
   ·rw [getT_putT,if_neg fun e=>h1 t e ht]
   ·refine ih (listed.setIfInBounds j true) _ H' (hcl.next hj) hfree' (ready_mono hr (Ne.symm hji)) (hy.next (fun t ht=>?_) hag hoj hji hjun (fun e he hb=>hrdy e he hb)) ?_
    ·rw [getT_putT,if_neg fun e=>h3 t e ht]
    ·rw [Array.setIfInBounds_comm _ _ hji]
     exact hA.congr _ _ _ _ _ (sameT.comm T _ _ fun x hx hx'=>h2 x hx' hx)
def okSeqP (W:List (Nat × Nat)) (ops:Array Oper) (L0:Array Bool):List (Nat × Nat)→Array Bool→Bool
 | [],listed=>listed == L0
 | (i,md)::σ,listed=>(match md with
   | 0=>Region.ready .any ops listed == [i]
   | 1=>(Region.ready .any ops listed).contains i && Region.free .any ops listed i
   | md+2=>(Region.ready .any ops listed).contains i && Region.free .any ops listed i && (match rdB md with
     | none=>true
     | some κ=>noWr W ops listed i κ)) && okSeqP W ops L0 σ (listed.setIfInBounds i true)
theorem SeqQ.anyZ {cx:Cx} {W:List (Nat × Nat)} {ops:Array Oper} {L0:Array Bool} (hz:tailB ops L0=true) {K:Tp→Hp→Prop}:∀ (σ:List (Nat × Nat)) (listed:Array Bool) (T:Tp) (H:Hp),Closed ops listed→okSeqP W ops L0 σ listed=true→SeqQ P cx W ops σ T H K→AnyZ P cx W ops L0 K σ.length listed T H
 | [],listed,T,H,_,hok,h=>⟨by simpa [okSeqP] using hok,T,.refl T,h⟩
 | (i,md)::σ,listed,T,H,hcl,hok,h=>by
  simp only [okSeqP,Bool.and_eq_true] at hok
  obtain ⟨h1,h2⟩:=hok
  simp only [SeqQ] at h
  replace h:=nthK_ok h
  obtain ⟨o,ho,h⟩:=h
  rw [Array.getElem?_toList] at ho
  cases hp:putB cx.N o.dst with
  | false=>rw [hp] at h; exact h.elim
  | true =>
  rw [hp] at h
  simp only [cond_true] at h
  have only:∀ v H',Region.ready .any ops listed=[i]→opX P cx.L ops o T H v H'→Kp W i H H'→AnyZ P cx W ops L0 K σ.length (listed.setIfInBounds i true) (putT o.dst v T) H'→AnyZ P cx W ops L0 K (σ.length+1) listed T H:=by
   intro v H' hr hx ha hs
   refine ⟨fun h0=>(by rw [hr] at h0; cases h0),fun j hj=>?_⟩
   rw [hr] at hj
   obtain rfl:j=i:=by simpa using hj
   exact ⟨o,v,H',ho,hx,ha,hp,hs⟩
  have tak:∀ v,i ∈ Region.ready .any ops listed→Region.free .any ops listed i=true→Steady P cx.L W ops listed i o T H v→AnyZ P cx W ops L0 K σ.length (listed.setIfInBounds i true) (putT o.dst v T) H→AnyZ P cx W ops L0 K (σ.length+1) listed T H:=by
   intro v hr hf hs hq
   exact AnyZ.take hz ho hp σ.length listed T H hcl (Region.free_spec ho hf) hr hs hq
  have hir:i ∈ Region.ready .any ops listed:=by
   rcases md with _ | _ | md
   ·have:Region.ready .any ops listed=[i]:=by simpa using h1
    rw [this]; simp
   ·simp only [Bool.and_eq_true] at h1; simpa using h1.1
   ·simp only [Bool.and_eq_true] at h1; simpa using h1.1.1
  have hcl':=hcl.next hir
  rcases guardK_gst h with ⟨T',hs,hg,h⟩ | ⟨T',hs,hg,h⟩
  ·have hop:∀ {v:AV} {H H':Hp},SD P cx.L o.op T' H v H'→SD P cx.L o.op T H v H':=fun hsd=>SD_congr (fun x _=>opd_same hs.symm x) hsd
   have back:∀ {v:AV} {H:Hp},AnyZ P cx W ops L0 K σ.length (listed.setIfInBounds i true) (putT o.dst v T') H→AnyZ P cx W ops L0 K σ.length (listed.setIfInBounds i true) (putT o.dst v T) H:=fun ha=>ha.congr _ _ _ _ _ (hs.symm.put o.dst _)
   rcases md with _ | _ | md
   ·obtain ⟨v,H',a,b,c⟩:=h
    exact only v H' (by simpa using h1) (.inl ⟨hg,hop a⟩) b (back (SeqQ.anyZ hz σ _ _ _ hcl' h2 c))
   ·obtain ⟨v,a,c⟩:=h
    simp only [Bool.and_eq_true] at h1
    exact tak v (by simpa using h1.1) h1.2 (.inl ⟨hg,.inl fun H'=>hop (a H')⟩) (back (SeqQ.anyZ hz σ _ _ _ hcl' h2 c))
   ·obtain ⟨v,⟨a,e,b⟩,c⟩:=h
    simp only [Bool.and_eq_true] at h1
    have hb:rdBlk (opd T (rdOpd o.op))=rdB md:=by rw [opd_same hs]; exact e
    refine tak v (by simpa using h1.1.1) h1.1.2 (.inl ⟨hg,.inr ⟨a,hop b,?_⟩⟩) (back (SeqQ.anyZ hz σ _ _ _ hcl' h2 c))
    rw [hb]
    cases hr:rdB md with
    | none=>exact .inl rfl
    | some κ=>rw [hr] at h1; exact noWr_spec h1.2
  ·have back:∀ {v:AV} {H:Hp},AnyZ P cx W ops L0 K σ.length (listed.setIfInBounds i true) (putT o.dst v T') H→AnyZ P cx W ops L0 K σ.length (listed.setIfInBounds i true) (putT o.dst v T) H:=fun ha=>ha.congr _ _ _ _ _ (hs.symm.put o.dst _)
   have hc:=back (SeqQ.anyZ hz σ _ _ _ hcl' h2 h)
   rcases md with _ | _ | md
   ·exact only _ H (by simpa using h1) (.inr ⟨hg,rfl,rfl⟩) (.refl _ _ _) hc
   ·simp only [Bool.and_eq_true] at h1
    exact tak _ (by simpa using h1.1) h1.2 (.inr ⟨hg,rfl⟩) hc
   ·simp only [Bool.and_eq_true] at h1
    exact tak _ (by simpa using h1.1.1) h1.1.2 (.inr ⟨hg,rfl⟩) hc
theorem AnyZ.sound {cx:Cx} {W:List (Nat × Nat)} (hL:LayOK P cx.L) {ops:Array Oper} {L0:Array Bool} {Z:Tp→Hp→Prop} {mb:Mp} {wb:World} {Q:Exit→Act→World→Prop} {rest:Nat} {ds:List Deferred} {ro:Option Nat}
  (hZ:∀ m T H a w,a.defers=ds→Rel X mb wb cx.N m T H a w→Z T H→wpAnyIn (Fw ro) 0 P .any ops Q rest L0 a w) :
  ∀ (fuel:Nat) (listed:Array Bool) (T:Tp) (H:Hp) (m:Mp) (a:Act) (w:World),a.defers=ds→AnyZ P cx W ops L0 Z fuel listed T H→Rel X mb wb cx.N m T H a w→wpAnyIn (Fw ro) 0 P .any ops Q (rest+fuel) listed a w:=by
 intro fuel
 induction fuel with
 | zero =>
  intro listed T H m a w hd ⟨h,T0,hs,hk⟩ hr
  subst h
  exact hZ m T0 H a w hd { hr with tmp:=fun t=>by rw [← hs t]; exact hr.tmp t } hk
 | succ fuel ih =>
  intro listed T H m a w hd h hr
  refine ⟨fun h0=>absurd h0 h.1,fun i hi=>?_⟩
  obtain ⟨o,v,H',ho,hx,_,hp,hA⟩:=h.2 i hi
  have hput:∀ {m':Mp} {w':World} {u:Value} {H1:Hp},H1=H'→Ext X m w m' w'→HRel X m' H1 w'→V X m' w' u v→Rel X mb wb cx.N m' (putT o.dst v T) H' (a.put o.dst u) w':=by
   intro m' w' u H1 e h1 h2 h3
   subst e
   cases hd:o.dst with
   | none=>exact hr.put_none h1 h2 u
   | some d =>
    rw [hd] at hp
    exact hr.put h1 h2 h3 (by simpa [putB,Nat.blt_eq] using hp)
  unfold wpOpIn
  simp only [ho]
  rcases hx with ⟨hg,hs⟩ | ⟨hg,rfl,rfl⟩
  ·rw [gst_ok hg hr,if_pos rfl]
   refine NOK.next (stepP_nodefer hs) (step_ok hL hr o hs) ?_
   intro u w' m' av H1 h1 h2 h3 h4
   obtain ⟨rfl,rfl⟩:=h4
   exact ih _ _ _ _ _ _ (by rw [put_defers]; exact hd) hA (hput rfl h3 h2 h1)
  ·rw [gst_ok hg hr]
   simp only [Bool.false_eq_true,if_false]
   exact ⟨about_true o a w,ih _ _ _ _ _ _ (by rw [put_defers]; exact hd) hA (hput (u:=undef) rfl (.refl _ _ _) hr.heap (.tp #[] [] rfl (fun j v c h=>by simp at h)))⟩
theorem yield_next {l:Nat} {xs:YL} {J:Nat→(Nat→Prop)→World→Prop} (hJ:JOK P l xs J) {wb:World} {N:Nat} {T:Tp} {i:Nat} {a:Act} {o:Oper} {args:List AV} {K:Bool→Prop} {Q:Exit→Act→World→Prop} {next:Act→World→Prop}
  (hr:Rel X [] wb N m T H a w) (hj:J i X wb) (hdf:a.defers=[]) (hy:yOp T o.op=some (l,args)) (h:ylS xs i args K)
  (hn:∀ X' w',K (goB xs i)→Rel X' [] w' N [] (forgetT T) [] a w'→J (i+1) X' w'→next (a.put o.dst (.bool (goB xs i))) w') (hP:∀ e w,PanY xs J e a w→Q e a w):o.wpIn (Fw none) 0 P a w next Q:=by
 unfold ylS at h
 obtain ⟨x,hx,hargs,h⟩:=h
 obtain ⟨f,as,ts,hop,hf,ha⟩:=yOp_some hy
 have hfv:a.eval f=.func (.yield l) #[] #[]:=by
  have:=opd_ok hr f
  rw [hf] at this
  generalize a.eval f=u at this
  cases this with
  | yl _=>rfl
 have hvs:(as.map a.eval).size=x.length:=by
  have:=congrArg List.length (ha.symm.trans hargs)
  simpa using this
 have hvd:∀ (j:Nat) v c,(as.map a.eval)[j]?=some v→x[j]?=some c→Rd (Imm X [] w) w v c:=by
  intro j v c hv hc
  have h1:(x.map AV.d)[j]?=some (.d c):=by simp [hc]
  rw [← hargs,ha] at h1
  simp only [List.getElem?_map,Option.map_eq_some_iff,Array.getElem?_toList] at h1
  obtain ⟨y,hy1,hy2⟩:=h1
  simp only [Array.getElem?_map,Option.map_eq_some_iff] at hv
  obtain ⟨y',hy3,rfl⟩:=hv
  rw [hy1] at hy3
  cases hy3
  have:=opd_ok hr y
  rw [hy2] at this
  generalize a.eval y=u at this
  cases this with
  | d _ _ hr=>exact hr.mono fun b hb=>⟨⟨hb.1,hb.2.1,by simp⟩,rfl⟩
 have hjw:J i X w:=hJ.stab i X wb w hj (KeepW.of_ext hr.ext)
 obtain ⟨fn,tmps,assign,body,hrun,hround⟩:=hJ.yld i x X w (as.map a.eval) hx hjw hr.heap.old hvs hvd
 refine ⟨about_true o a w,?_⟩
 rw [Oper.semAt_eq _ _ _ (fun c hc=>by rw [hop] at hc; cases hc)]
 have hexec:(execOp a.eval o).run P w=.ok (.round l fn tmps assign body) w:=by
  obtain ⟨dst,op,ty,pos,after,guard⟩:=o
  simp only at hop
  subst hop
  simp [execOp,resolve,Deferred.ofValue,invoke,hfv,callFunc,hrun]
 rw [hexec]
 refine ⟨fun h=>by simp [Fw] at h,?_⟩
 have:Fw none=Fence.wide:=rfl
 rw [this]
 refine hround.mono ?_
 rintro e w' ⟨hsz,hsame,⟨rfl,hj'⟩ | ⟨pv,hpn,rfl,hj'⟩⟩
 rotate_left
 ·exact hP _ _ ⟨pv,_,rfl,hpn,hdf,hj'⟩
 have hI:∀ b,Imm X m w b→Imm (fun b=>newX X w w' b∨.blk b ∈ m) [] w' b∧w'.heap[b]?=w.heap[b]?:=by
  intro b hb
  refine ⟨⟨Nat.lt_of_lt_of_le hb.1 hsz,?_,by simp⟩,hsame b hb.1 hb.2.1⟩
  rintro ((h1 | h1) | h1)
  ·exact hb.2.1 h1
  ·have:=hb.1; omega
  ·exact hb.2.2 h1
 have hrel:Rel (fun b=>newX X w w' b∨.blk b ∈ m) [] w' N [] (forgetT T) [] a w':=by
  refine ⟨.refl _ _ _,hr.size,fun t=>?_,⟨rfl,fun κ B h=>by simp at h,fun κ κ' b h=>by simp at h,fun κ b h=>by simp at h,?_,?_⟩,⟨[],hdf,List.nodup_nil,fun D h=>by cases h⟩⟩
  ·rw [getT_forget]
   have ht:=hr.tmp t
   generalize getT T t=av at ht
   generalize a.tmps.getD t undef=u at ht
   cases ht with
   | d _ _ hr=>exact .d _ _ (hr.mono hI)
   | yl l=>exact .yl l
   | _=>exact .un _
  ·rintro b ((h1 | h1) | h1)
   ·exact Nat.lt_of_lt_of_le (hr.heap.old b h1) hsz
   ·exact h1.2
   ·obtain ⟨κ,hκ⟩:=get_of_mem h1
    exact Nat.lt_of_lt_of_le (hr.heap.lt κ b hκ).1 hsz
  ·refine ⟨fun g cs hg=>?_⟩
   obtain ⟨⟨el,fz,h1⟩,h2,h3⟩:=hr.heap.tab.get g cs hg
   have hlt:g < w.heap.size:=by
    rcases Nat.lt_or_ge g w.heap.size with hl | hl
    ·exact hl
    ·rw [Array.getElem?_eq_none hl] at h1; cases h1
   refine ⟨⟨el,fz,(hsame g hlt h2).trans h1⟩,?_,by simp⟩
   rintro ((h4 | h4) | h4)
   ·exact h2 h4
   ·have:=h4.1; omega
   ·exact h3 h4
 exact hn _ w' h hrel (hJ.mono _ _ _ _ hj' (fun b hb=>.inl hb))
def chkY (W:List (Nat × Nat)) (ops:Array Oper) (σ1:List (Nat × Nat)) (j0:Nat) (σ2:List (Nat × Nat)) (L0:Array Bool):Bool :=
 tailB ops L0 && okSeqP W ops L0 σ1 (Array.replicate ops.size false) && Region.ready .any ops L0 == [j0] && tailB ops (Array.replicate ops.size true) && okSeqP W ops (Array.replicate ops.size true) σ2 (L0.setIfInBounds j0 true) &&
  closedB ops (L0.setIfInBounds j0 true) && Nat.beq (σ2.length+1+σ1.length) ops.size && (Region.ready .any ops (Array.replicate ops.size true)).isEmpty
theorem DrawY.mk {cx:Cx} (hL:LayOK P cx.L) (hm:P.follows .mixedOrders=true) {l:Nat} {xs:YL} {id:Nat} {ops:Array Oper} {T:Tp} {H:Hp} {i:Nat} {K:Tp→Hp→Nat→Prop} (W σ1:List (Nat × Nat)) (j0:Nat) (σ2:List (Nat × Nat)) (L0:Array Bool)
  (hok:chkY W ops σ1 j0 σ2 L0=true) (h:SeqQ P cx W ops σ1 T H fun T _=>nthK ops.toList j0 fun o=>bif putB cx.N o.dst && o.guard.isNone then (match yOp T o.op with
   | some (l',args)=>ylS xs i args fun gb=>l'=l∧SeqQ P cx W ops σ2 (putT o.dst (.d (.b gb)) (forgetT T)) [] fun T H=>K T H (i+1)
   | none=>False) else False):TrY P cx l xs (.region id ops true) T H i fun e T H i=>match e with
   | .normal=>K T H i
   | _=>False:=by
 unfold chkY at hok
 simp only [Bool.and_eq_true] at hok
 obtain ⟨⟨⟨⟨⟨⟨⟨k1,k2⟩,k3⟩,k4⟩,k5⟩,kc⟩,k6⟩,k7⟩:=hok
 have k3:Region.ready .any ops L0=[j0]:=by simpa using k3
 have k6:=Nat.eq_of_beq_eq_true k6
 unfold TrY
 rintro J hJ a w ⟨X,wb,m,hr,hj,hd⟩
 refine wpX_region_any hm ?_
 rw [← k6]
 refine AnyZ.sound (ds:=[]) hL ?_ σ1.length _ T H m a _ hd (SeqQ.anyZ k1 σ1 _ _ _ (fun j oj _ hl=>by rw [Array.getD_eq_getD_getElem?] at hl; simp [Array.getElem?_replicate] at hl; split at hl <;> simp at hl) (by rw [k6]; exact k2) h) (hr.drew _)
 intro m T H a w hd hr hk
 replace hk:=nthK_ok hk
 obtain ⟨o,ho,hk⟩:=hk
 rw [Array.getElem?_toList] at ho
 refine ⟨fun h0=>(by rw [k3] at h0; cases h0),fun i' hi'=>?_⟩
 rw [k3] at hi'
 obtain rfl:i'=j0:=by simpa using hi'
 cases hb:putB cx.N o.dst && o.guard.isNone with
 | false=>rw [hb] at hk; exact hk.elim
 | true =>
 rw [hb] at hk
 simp only [cond_true] at hk
 simp only [Bool.and_eq_true] at hb
 obtain ⟨hp,hg⟩:=hb
 have hg:o.guard=none:=by simpa using hg
 cases hy:yOp T o.op with
 | none=>rw [hy] at hk; exact hk.elim
 | some q =>
 obtain ⟨l',args⟩:=q
 rw [hy] at hk
 dsimp only at hk
 unfold wpOpIn
 simp only [ho]
 have hw:Region.wanted o (yielded ops a.tmps)=true:=gst_ok (T:=T) (by unfold gst; rw [hg]) hr
 rw [hw,if_pos rfl]
 have hll:l'=l:=by
  unfold ylS at hk
  obtain ⟨_,_,_,e,_⟩:=hk
  exact e
 subst hll
 refine yield_next hJ hr hj hd hy hk ?_ (fun e w hp=>.inr hp)
 intro X' w' ⟨_,hs⟩ hrel hj'
 have hr2:Rel X' [] w' cx.N [] (putT o.dst (.d (.b (goB xs i))) (forgetT T)) [] (a.put o.dst (.bool (goB xs i))) w':=by
  cases hd':o.dst with
  | none=>exact hrel.put_none (.refl _ _ _) hrel.heap _
  | some d =>
   rw [hd'] at hp
   exact hrel.put (.refl _ _ _) hrel.heap (.d _ _ (.b _)) (by simpa [putB,Nat.blt_eq] using hp)
 have:=AnyZ.sound (ds:=[]) (ro:=none) (rest:=0) (mb:=[]) (wb:=w') (Q:=fun e a w=>(∃ T H i,RelY J cx.N T H i a w∧(match e with | .normal=>K T H i | _=>False))∨PanY xs J e a w) hL (Z:=fun T H=>K T H (i+1)) (W:=W) (fun m T H a w hd hr hk=>⟨by simpa using k7,.inl ⟨T,H,i+1,⟨X',w',m,hr,hj',hd⟩,hk⟩⟩) σ2.length _ _ _ [] _ w' (by rw [put_defers]; exact hd) (SeqQ.anyZ k4 σ2 _ _ _ (.of_test kc) k5 hs) hr2
 simpa using this
theorem TrY.draw {cx:Cx} (hL:LayOK P cx.L) (hm:P.follows .mixedOrders=true) {l:Nat} {xs:YL} {id:Nat} {ops:Array Oper} {T:Tp} {H:Hp} {i:Nat} {Q:Exit→Tp→Hp→Nat→Prop} (W σ1:List (Nat × Nat)) (j0:Nat) (σ2:List (Nat × Nat)) (L0:Array Bool)
  (hok:chkY W ops σ1 j0 σ2 L0=true) (h:SeqQ P cx W ops σ1 T H fun T _=>nthK ops.toList j0 fun o=>bif putB cx.N o.dst && o.guard.isNone then (match yOp T o.op with
   | some (l',args)=>ylS xs i args fun gb=>l'=l∧SeqQ P cx W ops σ2 (putT o.dst (.d (.b gb)) (forgetT T)) [] fun T H=>Q .normal T H (i+1)
   | none=>False) else False):TrY P cx l xs (.region id ops true) T H i Q:=by
 have:=DrawY.mk (id:=id) (l:=l) (xs:=xs) (i:=i) (K:=fun T H i=>Q .normal T H i) hL hm W σ1 j0 σ2 L0 hok h
 unfold TrY at this ⊢
 intro J hJ a w hr
 refine wpX_mono (this J hJ a w hr) ?_
 rintro e a w (⟨T,H,i,hr,hq⟩ | hp)
 ·cases e with
  | normal=>exact .inl ⟨T,H,i,hr,hq⟩
  | _=>exact hq.elim
 ·exact .inr hp
end Go.Abs
