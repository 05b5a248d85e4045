/- Regions that draw their order, in which a call may panic. No condition. -/
import Derived.Test.YthandbiapckgkaaZB11
namespace Go.Abs
variable {P:Program} {X X':Nat→Prop} {m m':Mp} {H:Hp} {w w':World}
def callPP (P:Program) (op:Op) (T:Tp) (H:Hp) (k:AV→Hp→Prop) (pn:Value→Hp→Prop):Prop :=
 match op with
 | .call c=>(match c.callee with
  | .value f=>caPP P (opd T f) (c.args.toList.map (opd T)) H k pn
  | _=>False)
 | _=>False
theorem callPP_step {L:Lay} {op:Op} {T:Tp} {k:AV→Hp→Prop} {pn:Value→Hp→Prop} (h:callPP P op T H k pn):stepPP P L op T H k pn:=by
 unfold callPP at h
 cases op with
 | call c=>exact .inr h
 | _=>exact h.elim
theorem callPP_congr {op:Op} {T T':Tp} {k k':AV→Hp→Prop} {pn pn':Value→Hp→Prop} (ho:∀ x ∈ op.operands,opd T x=opd T' x) (h:callPP P op T H k pn) (hk:∀ v H,k v H→k' v H) (hp:∀ v H,pn v H→pn' v H):callPP P op T' H k' pn':=by
 unfold callPP at h ⊢
 have mono:∀ {f args},ECallP P f args H k pn→ECallP P f args H k' pn':=fun {f args} h=>by
  unfold ECallP at h ⊢
  refine ⟨h.1,fun X m vals w a b c=>(h.2 X m vals w a b c).mono ?_⟩
  rintro e w' (⟨v,m',r,H',h1,h2,h3,h4,h5⟩ | ⟨pv,m',H',h1,h2,h3,h4⟩)
  ·exact .inl ⟨v,m',r,H',h1,h2,h3,h4,hk _ _ h5⟩
  ·exact .inr ⟨pv,m',H',h1,h2,h3,hp _ _ h4⟩
 cases op with
 | call c =>
  dsimp only at h ⊢
  have ha:∀ x ∈ c.args.toList,opd T x=opd T' x:=fun x hx=>ho x (by
   simp only [Op.operands,Call.operands]
   cases c.callee <;> simp [Array.mem_toList_iff] at hx ⊢ <;> simp [hx])
  cases hc:c.callee with
  | value f =>
   rw [hc] at h
   dsimp only at h ⊢
   rw [opd_list ha,ho f (by simp [Op.operands,Call.operands,hc])] at h
   unfold caPP at h ⊢
   split at h
   ·exact mono h
   ·exact mono h
   ·exact mono h
   ·exact mono h
   ·exact h.elim
  | _=>rw [hc] at h; exact h.elim
 | _=>exact h.elim
def AnyP (P:Program) (cx:Cx) (W:List (Nat × Nat)) (ops:Array Oper) (pans:List Nat) (pn:Value→Tp→Hp→Prop) (K:Tp→Hp→Prop):Nat→Array Bool→Tp→Hp→Prop
  | 0,listed,T,H=>Region.ready .any ops listed=[]∧KK K T H
  | fuel+1,listed,T,H=>(Region.ready .any ops listed=[]→KK K T H) ∧
    ∀ i ∈ Region.ready .any ops listed,∃ o,ops[i]?=some o∧putB cx.N o.dst=true ∧
      ((∃ v H',opX P cx.L ops o T H v H'∧Kp W i H H'∧AnyP P cx W ops pans pn K fuel (listed.setIfInBounds i true) (putT o.dst v T) H') ∨
       (i ∈ pans∧gst ops o.guard T=some true∧callPP P o.op T H (fun v H'=>Kp W i H H'∧AnyP P cx W ops pans pn K fuel (listed.setIfInBounds i true) (putT o.dst v T) H') fun pv H'=>KK (pn pv) T H'))
theorem AnyP.congr {cx:Cx} {W:List (Nat × Nat)} {ops:Array Oper} {pans:List Nat} {pn:Value→Tp→Hp→Prop} {K:Tp→Hp→Prop}:∀ (fuel:Nat) (listed:Array Bool) (T T':Tp) (H:Hp),sameT T T'→AnyP P cx W ops pans pn K fuel listed T H→AnyP P cx W ops pans pn K fuel listed T' H
 | 0,_,_,_,_,hs,⟨h,T0,h1,h2⟩=>⟨h,T0,hs.symm.trans h1,h2⟩
 | fuel+1,_,T,T',_,hs,⟨h1,h2⟩=>⟨fun hr=>let ⟨T0,a,b⟩:=h1 hr; ⟨T0,hs.symm.trans a,b⟩,fun i hi=>by
   obtain ⟨o,a,d,hc⟩:=h2 i hi
   refine ⟨o,a,d,?_⟩
   rcases hc with ⟨v,H',b,c,e⟩ | ⟨hp,hg,hcall⟩
   ·exact .inl ⟨v,H',opX_congr (fun t _=>hs t) b,c,AnyP.congr fuel _ _ _ _ (hs.put o.dst v) e⟩
   ·exact .inr ⟨hp,by rw [← gst_same fun t _=>hs t]; exact hg,callPP_congr (fun x _=>opd_same hs x) hcall (fun v H h=>⟨h.1,AnyP.congr fuel _ _ _ _ (hs.put o.dst v) h.2⟩) fun pv H ⟨T0,x,y⟩=>⟨T0,hs.symm.trans x,y⟩⟩⟩
theorem AnyP.sound [Inhabited DSt] {cx:Cx} {W:List (Nat × Nat)} (hL:LayOK P cx.L) {ops:Array Oper} {pans:List Nat} {pn:Value→Tp→Hp→Prop} {K:Tp→Hp→Prop} {mb:Mp} {wb:World} {Q:Exit→Act→World→Prop} (hQ:∀ m T H a w,Rel X mb wb cx.N m T H a w→K T H→Q .normal a w) (hP:∀ pv m T H a w,Rel X mb wb cx.N m T H a w→pn pv T H→Q (.panic (pch pv)) a w) :
  ∀ (fuel:Nat) (listed:Array Bool) (T:Tp) (H:Hp) (m:Mp) (a:Act) (w:World),AnyP P cx W ops pans pn K fuel listed T H→Rel X mb wb cx.N m T H a w→wpAnyIn (Fw cx.ro) 0 P .any ops Q fuel listed a w:=by
 have fin:∀ (T:Tp) (H:Hp) (m:Mp) (a:Act) (w:World),KK K T H→Rel X mb wb cx.N m T H a w→Q .normal a w:=by
  intro T H m a w ⟨T0,hs,hk⟩ hr
  exact hQ m T0 H a w { hr with tmp:=fun t=>by rw [← hs t]; exact hr.tmp t } hk
 intro fuel
 induction fuel with
 | zero=>intro listed T H m a w h hr; exact ⟨h.1,fin _ _ _ _ _ h.2 hr⟩
 | succ fuel ih =>
  intro listed T H m a w h hr
  refine ⟨fun h0=>fin _ _ _ _ _ (h.1 h0) hr,fun i hi=>?_⟩
  obtain ⟨o,ho,hp,hc⟩:=h.2 i hi
  have hput:∀ {m':Mp} {w':World} {u:Value} {v:AV} {H1:Hp},Ext X m w m' w'→HRel X m' H1 w'→V X m' w' u v→Rel X mb wb cx.N m' (putT o.dst v T) H1 (a.put o.dst u) w':=by
   intro m' w' u v H1 h1 h2 h3
   cases hd:o.dst with
   | none=>exact hr.put_none h1 h2 u
   | some d =>
    rw [hd] at hp
    exact hr.put h1 h2 h3 (by simpa [putB,Nat.blt_eq] using hp)
  unfold wpOpIn
  simp only [ho]
  rcases hc with ⟨v,H',hx,_,hA⟩ | ⟨_,hg,hcall⟩
  ·rcases hx with ⟨hg,hs⟩ | ⟨hg,rfl,rfl⟩
   ·rw [gst_ok hg hr,if_pos rfl]
    refine NOK.next (stepP_nodefer hs) (step_ok hL hr o hs) ?_
    intro u w' m' av H1 h1 h2 h3 h4
    obtain ⟨rfl,rfl⟩:=h4
    exact ih _ _ _ _ _ _ hA (hput h3 h2 h1)
   ·rw [gst_ok hg hr]
    simp only [Bool.false_eq_true,if_false]
    exact ⟨about_true o a w,ih _ _ _ _ _ _ hA (hput (u:=undef) (.refl _ _ _) hr.heap (.tp #[] [] rfl (fun j v c h=>by simp at h)))⟩
  ·rw [gst_ok hg hr,if_pos rfl]
   obtain ⟨hk,hnd⟩:=stepPP_ok hL hr o (callPP_step hcall)
   refine NOKP.next hnd hk ?_ ?_
   ·intro u w' m' av H1 h1 h2 h3 h4
    exact ih _ _ _ _ _ _ h4.2 (hput h3 h2 h1)
   ·rintro pv w' m' H1 h2 h3 ⟨T0,hs,h4⟩
    exact hP pv m' T0 H1 a w' { (hr.stay h3 h2) with tmp:=fun t=>by rw [← hs t]; exact (hr.stay h3 h2).tmp t } h4
def LateP (ops:Array Oper) (pans:List Nat) (listed:Array Bool) (i:Nat):Prop:=∃ S:Nat→Prop,S i∧(∀ j,S j→listed.getD j true=false) ∧
 (∀ (j:Nat) oj,S j→j≠i→ops[j]?=some oj→∃ e ∈ oj.after,Region.binds .any e=true∧S e.on)∧∀ p ∈ pans,S p∨listed.getD p true=true
def lateB (ops:Array Oper) (pans:List Nat) (listed:Array Bool) (i:Nat):Bool :=
 let S:=lateSet ops i
 S.getD i false && ((List.range ops.size).all fun j=>bif S.getD j false then !listed.getD j true else true) && pans.all fun p=>S.getD p false || listed.getD p true
theorem lateB_spec {ops:Array Oper} {pans:List Nat} {listed:Array Bool} {i:Nat} (h:lateB ops pans listed i=true):LateP ops pans listed i:=by
 unfold lateB at h
 simp only [Bool.and_eq_true,List.all_eq_true] at h
 obtain ⟨⟨h0,h⟩,hw⟩:=h
 obtain ⟨hs,hl⟩:=lateSet_spec ops i
 have lt:∀ j,(lateSet ops i).getD j false=true→j < ops.size:=by
  intro j hj
  rw [Array.getD_eq_getD_getElem?] at hj
  cases hA:(lateSet ops i)[j]? with
  | none=>rw [hA] at hj; simp at hj
  | some x=>rw [← hs]; exact (Array.getElem?_eq_some_iff.1 hA).1
 refine ⟨fun j=>(lateSet ops i).getD j false=true,h0,fun j hj=>?_,fun j oj hj hne ho=>hl j oj hj hne ho,fun p hp=>?_⟩
 ·have:=h j (List.mem_range.2 (lt j hj))
  rw [hj] at this
  simpa using this
 ·simpa using hw p hp
theorem AnyP.take {cx:Cx} {W:List (Nat × Nat)} {ops:Array Oper} {pans:List Nat} {pn:Value→Tp→Hp→Prop} {K:Tp→Hp→Prop} {i:Nat} {oi:Oper} {v:AV} (hi:ops[i]?=some oi) (hp:putB cx.N oi.dst=true) :
  ∀ (fuel:Nat) (listed:Array Bool) (T:Tp) (H:Hp),
   (∀ (j:Nat) oj,ops[j]?=some oj→j≠i→listed.getD j true=false→(∀ e ∈ oj.after,Region.binds .any e=true→e.on≠i)→oi.apart ops oj=true) →
   (LateP ops pans listed i∨∀ pv T T' H,pn pv T H→pn pv T' H)→i ∈ Region.ready .any ops listed→Steady P cx.L W ops listed i oi T H v →
   AnyP P cx W ops pans pn K fuel (listed.setIfInBounds i true) (putT oi.dst v T) H→AnyP P cx W ops pans pn K (fuel+1) listed T H:=by
 intro fuel
 induction fuel with
 | zero =>
  intro listed T H _ _ hr hy h
  refine ⟨fun h0=>(by rw [h0] at hr; cases hr),fun j hj=>?_⟩
  by_cases hji:j=i
  ·subst hji; exact ⟨oi,hi,hp,.inl ⟨v,H,hy.opX,.refl _ _ _,h⟩⟩
  ·have:=ready_mono hj hji
   rw [h.1] at this
   cases this
 | succ fuel ih =>
  intro listed T H hfree hlate hr hy h
  refine ⟨fun h0=>(by rw [h0] at hr; cases hr),fun j hj=>?_⟩
  by_cases hji:j=i
  ·subst hji; exact ⟨oi,hi,hp,.inl ⟨v,H,hy.opX,.refl _ _ _,h⟩⟩
  ·obtain ⟨o,ho,hpj,hcase⟩:=h.2 j (ready_mono hj hji)
   obtain ⟨hjun,oj,hoj,hall⟩:=mem_ready.1 hj
   rw [hoj] at ho
   obtain rfl:oj=o:=by simpa using ho
   have hnot:∀ e ∈ oj.after,Region.binds .any e=true→e.on≠i:=fun e he hb heq=>by
    have h1:=hall e he hb
    have h0:=(mem_ready.1 hr).1
    rw [heq] at h1
    rcases Nat.lt_or_ge i listed.size with h' | h'
    ·simp [h'] at h0 h1; rw [h0] at h1; cases h1
    ·simp [Array.getElem?_eq_none h'] at h1
   have hrdy:∀ e ∈ oj.after,Region.binds .any e=true→listed.getD e.on true=true:=fun e he hb=>by
    have h1:=hall e he hb
    rcases Nat.lt_or_ge e.on listed.size with h' | h'
    ·simpa [h'] using h1
    ·simp [Array.getElem?_eq_none h'] at h1
   obtain ⟨h1,h2,h3⟩:=Oper.apart_spec (hfree j oj hoj hji hjun hnot)
   have hfree':∀ (k:Nat) ok,ops[k]?=some ok→k≠i→(listed.setIfInBounds j true).getD k true=false →
     (∀ e ∈ ok.after,Region.binds .any e=true→e.on≠i)→oi.apart ops ok=true:=fun k ok hk hki hun hno=>by
    refine hfree k ok hk hki ?_ hno
    by_cases hjk:j=k
    ·subst hjk; exact hjun
    ·rw [getD_set_ne true hjk] at hun; exact hun
   have hlate':LateP ops pans (listed.setIfInBounds j true) i∨∀ pv T T' H,pn pv T H→pn pv T' H:=by
    refine hlate.imp (fun ⟨S,s1,s2,s3,s4⟩=>?_) id
    have hSj:¬ S j:=fun hs=>by
     obtain ⟨e,he,hb,hse⟩:=s3 j oj hs hji hoj
     have h1:=hrdy e he hb
     rw [s2 _ hse] at h1; cases h1
    exact ⟨S,s1,fun k hk=>by rw [getD_set_ne true (fun e=>hSj (by rw [e]; exact hk))]; exact s2 k hk,s3,fun p hp'=>(s4 p hp').imp id fun h1=>by
     by_cases hjp:j=p
     ·subst hjp; rw [hjun] at h1; cases h1
     ·rw [getD_set_ne true hjp]; exact h1⟩
   have hpn:j ∈ pans→∀ pv H0,KK (pn pv) (putT oi.dst v T) H0→KK (pn pv) T H0:=by
    intro hpan pv H0 ⟨T0,_,hx⟩
    rcases hlate with ⟨S,s1,s2,s3,s4⟩ | hT
    ·have hSj:¬ S j:=fun hs=>by
      obtain ⟨e,he,hb,hse⟩:=s3 j oj hs hji hoj
      have h1:=hrdy e he hb
      rw [s2 _ hse] at h1; cases h1
     rcases s4 j hpan with h1 | h1
     ·exact absurd h1 hSj
     ·rw [hjun] at h1; cases h1
    ·exact ⟨T,.refl T,hT _ _ _ _ hx⟩
   have next:∀ u H',Kp W j H H'→AnyP P cx W ops pans pn K fuel ((listed.setIfInBounds i true).setIfInBounds j true) (putT oj.dst u (putT oi.dst v T)) H'→AnyP P cx W ops pans pn K (fuel+1) (listed.setIfInBounds j true) (putT oj.dst u T) H':=by
    intro u H' hag hA
    refine ih (listed.setIfInBounds j true) _ H' hfree' hlate' (ready_mono hr (Ne.symm hji)) (hy.next (fun t ht=>?_) hag hoj hji hjun (fun e he hb=>hrdy e he hb)) ?_
    ·rw [getT_putT,if_neg fun e=>h3 t e ht]
    ·rw [Array.setIfInBounds_comm _ _ hji]
     exact hA.congr _ _ _ _ _ (sameT.comm T _ _ fun x hx hx'=>h2 x hx' hx)
   rcases hcase with ⟨u,H',hx,hag,hA⟩ | ⟨hpan,hg,hcall⟩
   ·refine ⟨oj,hoj,hpj,.inl ⟨u,H',opX_congr (fun t ht=>?_) hx,hag,next u H' hag hA⟩⟩
    rw [getT_putT,if_neg fun e=>h1 t e ht]
   ·have hT:∀ t ∈ oj.looksAt ops,getT (putT oi.dst v T) t=getT T t:=fun t ht=>by rw [getT_putT,if_neg fun e=>h1 t e ht]
    refine ⟨oj,hoj,hpj,.inr ⟨hpan,?_,callPP_congr (fun x hx=>?_) hcall (fun u H' h=>⟨h.1,next u H' h.1 h.2⟩) (hpn hpan)⟩⟩
    ·rw [← gst_same hT]; exact hg
    ·cases x with
     | tmp t=>exact hT t (List.mem_append_left _ (List.mem_filterMap.2 ⟨.tmp t,by simpa using hx,rfl⟩))
     | _=>rfl
def okSeqPan (al:Bool) (W:List (Nat × Nat)) (ops:Array Oper) (pans:List Nat):List (Nat × Nat)→Array Bool→Bool
 | [],listed=>(Region.ready .any ops listed).isEmpty
 | (i,md)::σ,listed=>(match md with
   | 0=>Region.ready .any ops listed == [i]
   | 1=>(Region.ready .any ops listed).contains i && Region.free .any ops listed i && (al || lateB ops pans listed i)
   | md+2=>(Region.ready .any ops listed).contains i && Region.free .any ops listed i && (al || lateB ops pans listed i) && (match rdB md with
     | none=>true
     | some κ=>noWr W ops listed i κ)) && okSeqPan al W ops pans σ (listed.setIfInBounds i true)
def SeqP (P : Program) (cx : Cx) (W : List (Nat × Nat)) (ops : Array Oper) (pans : List Nat) (pn : Value → Tp → Hp → Prop) : List (Nat × Nat) → Tp → Hp → (Tp → Hp → Prop) → Prop
  | [], T, H, K => K T H
  | (i, md) :: σ, T, H, K => nthK ops.toList i fun o => bif putB cx.N o.dst then (bif pans.contains i && o.guard.isNone && Nat.beq md 0 then callPP P o.op T H (fun v H' => Kp W i H H' ∧ SeqP P cx W ops pans pn σ (putT o.dst v T) H' K) (fun pv H' => pn pv T H') else guardK ops.toList o.guard T
        (fun T => match md with
          | 0 => ∃ v H', SD P cx.L o.op T H v H' ∧ Kp W i H H' ∧ SeqP P cx W ops pans pn σ (putT o.dst v T) H' K
          | 1 => ∃ v, (∀ H', SD P cx.L o.op T H' v H') ∧ SeqP P cx W ops pans pn σ (putT o.dst v T) H K
          | md + 2 => ∃ v, (rdOp o.op = true ∧ rdBlk (opd T (rdOpd o.op)) = rdB md ∧ SD P cx.L o.op T H v H) ∧ SeqP P cx W ops pans pn σ (putT o.dst v T) H K)
        (fun T => SeqP P cx W ops pans pn σ (putT o.dst (.tp []) T) H K))
      else False
theorem SeqP.any {cx:Cx} {al:Bool} {W:List (Nat × Nat)} {ops:Array Oper} {pans:List Nat} {pn:Value→Tp→Hp→Prop} {K:Tp→Hp→Prop}:∀ (σ:List (Nat × Nat)) (listed:Array Bool) (T:Tp) (H:Hp),okSeqPan al W ops pans σ listed=true→(al=true→∀ pv T T' H,pn pv T H→pn pv T' H)→SeqP P cx W ops pans pn σ T H K→AnyP P cx W ops pans pn K σ.length listed T H
 | [],listed,T,H,hok,_,h=>⟨by simpa [okSeqPan] using hok,T,.refl T,h⟩
 | (i,md)::σ,listed,T,H,hok,hal,h=>by
  have hlt:∀ listed,(al || lateB ops pans listed i)=true→LateP ops pans listed i∨∀ pv T T' H,pn pv T H→pn pv T' H:=fun listed h=>by
   cases ha:al with
   | true=>exact .inr (hal ha)
   | false=>rw [ha] at h; exact .inl (lateB_spec h)
  simp only [okSeqPan,Bool.and_eq_true] at hok
  obtain ⟨h1,h2⟩:=hok
  simp only [SeqP] at h
  replace h:=nthK_ok h
  obtain ⟨o,ho,h⟩:=h
  rw [Array.getElem?_toList] at ho
  cases hp:putB cx.N o.dst with
  | false=>rw [hp] at h; exact h.elim
  | true =>
  rw [hp] at h
  simp only [cond_true] at h
  have only:∀ v H',Region.ready .any ops listed=[i]→opX P cx.L ops o T H v H'→Kp W i H H'→AnyP P cx W ops pans pn K σ.length (listed.setIfInBounds i true) (putT o.dst v T) H'→AnyP P cx W ops pans pn K (σ.length+1) listed T H:=by
   intro v H' hr hx ha hs
   refine ⟨fun h0=>(by rw [hr] at h0; cases h0),fun j hj=>?_⟩
   rw [hr] at hj
   obtain rfl:j=i:=by simpa using hj
   exact ⟨o,ho,hp,.inl ⟨v,H',hx,ha,hs⟩⟩
  have tak:∀ v,i ∈ Region.ready .any ops listed→Region.free .any ops listed i=true→(al || lateB ops pans listed i)=true→Steady P cx.L W ops listed i o T H v→AnyP P cx W ops pans pn K σ.length (listed.setIfInBounds i true) (putT o.dst v T) H→AnyP P cx W ops pans pn K (σ.length+1) listed T H:=by
   intro v hr hf hl hs hq
   exact AnyP.take ho hp σ.length listed T H (Region.free_spec ho hf) (hlt _ hl) hr hs hq
  cases hpc:pans.contains i && o.guard.isNone && Nat.beq md 0 with
  | true =>
   rw [hpc] at h
   simp only [cond_true] at h
   simp only [Bool.and_eq_true,Option.isNone_iff_eq_none] at hpc
   obtain ⟨⟨hpi,hgn⟩,hmd⟩:=hpc
   obtain rfl:=Nat.eq_of_beq_eq_true hmd
   have hr:Region.ready .any ops listed=[i]:=by simpa using h1
   refine ⟨fun h0=>(by rw [hr] at h0; cases h0),fun j hj=>?_⟩
   rw [hr] at hj
   obtain rfl:j=i:=by simpa using hj
   exact ⟨o,ho,hp,.inr ⟨by simpa using hpi,by simp [gst,hgn],callPP_congr (fun _ _=>rfl) h (fun v H h=>⟨h.1,SeqP.any σ _ _ _ h2 hal h.2⟩) fun pv H h=>⟨T,.refl T,h⟩⟩⟩
  | false =>
  rw [hpc] at h
  simp only [cond_false] at h
  rcases guardK_gst h with ⟨T',hs,hg,h⟩ | ⟨T',hs,hg,h⟩
  ·have hop:∀ {v:AV} {H H':Hp},SD P cx.L o.op T' H v H'→SD P cx.L o.op T H v H':=fun hsd=>SD_congr (fun x _=>opd_same hs.symm x) hsd
   have back:∀ {v:AV} {H:Hp},AnyP P cx W ops pans pn K σ.length (listed.setIfInBounds i true) (putT o.dst v T') H→AnyP P cx W ops pans pn K σ.length (listed.setIfInBounds i true) (putT o.dst v T) H:=fun ha=>ha.congr _ _ _ _ _ (hs.symm.put o.dst _)
   rcases md with _ | _ | md
   ·obtain ⟨v,H',a,b,c⟩:=h
    exact only v H' (by simpa using h1) (.inl ⟨hg,hop a⟩) b (back (SeqP.any σ _ _ _ h2 hal c))
   ·obtain ⟨v,a,c⟩:=h
    simp only [Bool.and_eq_true] at h1
    exact tak v (by simpa using h1.1.1) h1.1.2 h1.2 (.inl ⟨hg,.inl fun H'=>hop (a H')⟩) (back (SeqP.any σ _ _ _ h2 hal c))
   ·obtain ⟨v,⟨a,e,b⟩,c⟩:=h
    simp only [Bool.and_eq_true] at h1
    have hb:rdBlk (opd T (rdOpd o.op))=rdB md:=by rw [opd_same hs]; exact e
    refine tak v (by simpa using h1.1.1.1) h1.1.1.2 h1.1.2 (.inl ⟨hg,.inr ⟨a,hop b,?_⟩⟩) (back (SeqP.any σ _ _ _ h2 hal c))
    rw [hb]
    cases hr:rdB md with
    | none=>exact .inl rfl
    | some κ=>rw [hr] at h1; exact noWr_spec h1.2
  ·have back:∀ {v:AV} {H:Hp},AnyP P cx W ops pans pn K σ.length (listed.setIfInBounds i true) (putT o.dst v T') H→AnyP P cx W ops pans pn K σ.length (listed.setIfInBounds i true) (putT o.dst v T) H:=fun ha=>ha.congr _ _ _ _ _ (hs.symm.put o.dst _)
   have hc:=back (SeqP.any σ _ _ _ h2 hal h)
   rcases md with _ | _ | md
   ·exact only _ H (by simpa using h1) (.inr ⟨hg,rfl,rfl⟩) (.refl _ _ _) hc
   ·simp only [Bool.and_eq_true] at h1
    exact tak _ (by simpa using h1.1.1) h1.1.2 h1.2 (.inr ⟨hg,rfl⟩) hc
   ·simp only [Bool.and_eq_true] at h1
    exact tak _ (by simpa using h1.1.1.1) h1.1.1.2 h1.1.2 (.inr ⟨hg,rfl⟩) hc
end Go.Abs
