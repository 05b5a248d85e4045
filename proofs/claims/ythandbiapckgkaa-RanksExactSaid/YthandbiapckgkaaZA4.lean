/- Loads, stores, addresses of fields and elements, new blocks: the abstract operations and why they are sound. No condition. -/
import Derived.Test.YthandbiapckgkaaZA3
namespace Go.Abs
variable {P:Program} {X:Nat→Prop} {m m':Mp} {H:Hp} {w w':World}
theorem VOK.pure {s:Sem Value} {k:AV→Hp→Prop} {v:Value} {av:AV} (hs:s.run P w=.ok v w) (hv:V X m w v av) (hh:HRel X m H w) (hk:k av H):VOK P X m w s k :=
 ⟨v,w,m,av,H,hs,hv,hh,.refl _ _ _,hk⟩
theorem add_addr (b o n:Nat):(⟨b,o,none⟩:Addr).add n=⟨b,o+n,none⟩:=by unfold Addr.add; split <;> simp_all
def aggK (agg:Bool) (cs:List AV) (k:AV→Prop):Prop :=
 bif agg then mkAg cs k else match cs with
  | [c]=>k c
  | _=>False
@[irreducible] def elP (es:List AV) (j:Nat) (k:AV→Prop):Prop:=∃ e,es[j]?=some e∧k e
theorem elP_mk {es:List AV} {j:Nat} {k:AV→Prop} (e:AV) (h:es[j]?=some e) (hk:k e):elP es j k:=by unfold elP; exact ⟨e,h,hk⟩
def ldP (li:LI) (x:AV) (H:Hp) (k:AV→Prop):Prop :=
 match x with
 | .pt κ o=>nthK H κ fun B=>match B with
  | some (.var cs)=>dropK cs o fun r=>takeK r li.size fun c=>aggK li.agg c k
  | _=>False
 | .pe κ q j o=>nthK H κ fun B=>match B with
  | some (.arr q' es)=>bif Nat.beq q q' then elP es j fun e=>dropK e.cells o fun r=>takeK r li.size fun c=>aggK li.agg c k else False
  | _=>False
 | .d (.ro cs)=>takeK cs li.size fun ds=>bif li.agg then k (.d (.ag ds)) else match ds with
  | [c]=>k (.d c)
  | _=>False
 | _=>False
theorem run_loadVar {t:TypeId} {li:LI} {i:TypeInfo} {u:TypeDesc} {z:Value} (hl:LIs P t li i u z) (b o:Nat) (cs:List AV) (k:AV→Prop)
  (hcs:∀ (j:Nat) c,cs[j]?=some c→∃ v,w.cell? ⟨b,o+j,none⟩=some v∧C X m w v c) (hn:cs.length=li.size) (hk:aggK li.agg cs k) :
  ∃ v av,(loadVar t ⟨b,o,none⟩).run P w=.ok v w∧V X m w v av∧k av:=by
 have hval:∃ us:List Value,us.length=cs.length∧∀ (j:Nat) c,cs[j]?=some c→∃ v,us[j]?=some v∧w.cell? ⟨b,o+j,none⟩=some v∧C X m w v c:=by
  refine ⟨(List.range cs.length).map fun j=>(w.cell? ⟨b,o+j,none⟩).getD undef,by simp,fun j c hc=>?_⟩
  obtain ⟨v,e,hv⟩:=hcs j c hc
  have hlt:=(List.getElem?_eq_some_iff.1 hc).1
  exact ⟨v,by simp [hlt,e],e,hv⟩
 obtain ⟨us,hlen,hus⟩:=hval
 have hagg:isAgg t=(do match ← underlying t with | .struct _ | .array _ _=>pure true | _=>pure false):=rfl
 have hund:(underlying t).run P w=.ok u w:=by simp [underlying,hl.und]
 have hinf:(typeInfo t).run P w=.ok i w:=by simp [typeInfo,hl.info]
 have hcellv:∀ (j:Nat) v,us[j]?=some v→w.cell? ((⟨b,o,none⟩:Addr).add j)=some v:=by
  intro j v hv
  have hlt:j < cs.length:=by rw [← hlen]; exact (List.getElem?_eq_some_iff.1 hv).1
  obtain ⟨v',e,hc,_⟩:=hus j _ (List.getElem?_eq_getElem hlt)
  rw [hv] at e; cases e
  rw [add_addr]; exact hc
 cases ha:li.agg with
 | true =>
  rw [ha] at hk
  have hrun:(loadVar t ⟨b,o,none⟩).run P w=.ok (.agg us.toArray) w:=by
   have hload:=run_loadCells_list (P:=P) w ⟨b,o,none⟩ us hcellv
   have e1:us.length=i.size:=by rw [hlen,hn,hl.size]
   rw [e1] at hload
   have h2:=hl.agg
   rw [ha] at h2
   cases u <;> simp [isAggD] at h2 <;> simp [loadVar,hagg,hund,sizeOf,hinf,hload]
  obtain ⟨av,hv,hka⟩:=V.of_mkAg (X:=X) (m:=m) (w:=w) (vs:=us.toArray) (cs:=cs) (k:=k) hk (by simpa using hlen) (fun j c hc=>by
   obtain ⟨v,e,_,hC⟩:=hus j c hc
   exact ⟨v,by simpa using e,hC⟩)
  exact ⟨_,av,hrun,hv,hka⟩
 | false =>
  rw [ha] at hk
  simp only [aggK,cond_false] at hk
  split at hk
  ·rename_i c
   obtain ⟨v,e,hc,hC⟩:=hus 0 c rfl
   refine ⟨v,c,?_,hC.1,hk⟩
   have h2:=hl.agg
   rw [ha] at h2
   simp only [Nat.add_zero] at hc
   cases u <;> simp [isAggD] at h2 <;> simp [loadVar,hagg,hund,hc]
  ·exact hk.elim
theorem ld_ok {t:TypeId} {li:LI} {i:TypeInfo} {u:TypeDesc} {z:Value} (hl:LIs P t li i u z) {x:AV} {v:Value} {k:AV→Hp→Prop} (hv:V X m w v x) (hh:HRel X m H w)
  (h:ldP li x H fun a=>k a H):VOK P X m w (Instr.loadAt t v) k:=by
 unfold ldP at h
 split at h
 ·rename_i κ o
  obtain ⟨B,hB,h⟩:=nthK_ok h
  split at h
  ·rename_i cs
   obtain ⟨h1,h⟩:=dropK_ok h
   obtain ⟨h2,h⟩:=takeK_ok h
   cases hv with
   | pt _ _ _ hκ _ hp =>
    rcases hh.blk2 κ _ hB with ⟨b,vs,el,hb,hg,hR⟩ | ⟨_,_,hB0⟩
    case inr=>cases hB0
    have e:=hp b hb
    subst e
    obtain ⟨v',av,hrun,hV,hk⟩:=run_loadVar (w:=w) (X:=X) (m:=m) hl b o ((cs.drop o).take li.size) _ (fun j c hc=>by
     have hlt:=(List.getElem?_eq_some_iff.1 hc).1
     simp at hlt
     rw [List.getElem?_take,if_pos (by omega),List.getElem?_drop] at hc
     obtain ⟨u,e,hu⟩:=hR (o+j) c hc
     exact ⟨u,by rw [cell_of_row w b _ vs el _ hg]; exact e,hu⟩) (by simp at h2 ⊢; omega) h
    exact ⟨v',w,m,av,H,by simp [Instr.loadAt,Instr.sureAddr,hrun],hV,hh,.refl _ _ _,hk⟩
  ·exact h.elim
 ·rename_i κ q j o
  obtain ⟨B,hB,h⟩:=nthK_ok h
  split at h
  ·rename_i q' es
   cases hq:Nat.beq q q' with
   | false=>rw [hq] at h; exact h.elim
   | true =>
    rw [hq] at h
    obtain rfl:=Nat.eq_of_beq_eq_true hq
    simp only [cond_true] at h
    unfold elP at h
    obtain ⟨e,he,h⟩:=h
    obtain ⟨h1,h⟩:=dropK_ok h
    obtain ⟨h2,h⟩:=takeK_ok h
    cases hv with
    | pe _ _ _ _ _ hκ _ hp =>
     rcases hh.blk2 κ _ hB with ⟨b,vs,el,hb,hg,hR⟩ | ⟨_,_,hB0⟩
     case inr=>cases hB0; simp at he
     have e1:=hp b hb
     subst e1
     obtain ⟨v',av,hrun,hV,hk⟩:=run_loadVar (w:=w) (X:=X) (m:=m) hl b (j * q+o) ((e.cells.drop o).take li.size) _ (fun l c hc=>by
      have hlt:=(List.getElem?_eq_some_iff.1 hc).1
      simp at hlt
      rw [List.getElem?_take,if_pos (by omega),List.getElem?_drop] at hc
      obtain ⟨u,e,hu⟩:=hR.2 j _ (o+l) c he hc
      exact ⟨u,by rw [cell_of_row w b _ vs el _ hg,Nat.add_assoc]; exact e,hu⟩) (by simp at h2 ⊢; omega) h
     exact ⟨v',w,m,av,H,by simp [Instr.loadAt,Instr.sureAddr,hrun],hV,hh,.refl _ _ _,hk⟩
  ·exact h.elim
 ·rename_i cs
  obtain ⟨h2,h⟩:=takeK_ok h
  cases hv with
  | d _ _ hr =>
   cases hr with
   | ro bk off _ vs hI hw hvs =>
    obtain ⟨v',av,hrun,hV,hk⟩:=run_loadVar (w:=w) (X:=X) (m:=m) (k:=fun a=>k a H) hl bk off ((cs.take li.size).map .d) (fun j c hc=>by
      simp only [List.getElem?_map,Option.map_eq_some_iff] at hc
      obtain ⟨c',hc',rfl⟩:=hc
      have hlt:=(List.getElem?_eq_some_iff.1 hc').1
      simp at hlt
      rw [List.getElem?_take,if_pos (by omega)] at hc'
      exact ⟨vs j,(hw j c' hc').1,.d _ _ (hvs j c' hc'),(hw j c' hc').2⟩) (by simp at h2 ⊢; omega) (by
      cases ha:li.agg with
      | true =>
       rw [ha] at h
       have key:∀ (l:List D) (kk:List D→Prop) (e:Prop),kk l→allDK (l.map AV.d) kk e:=by
        intro l
        induction l with
        | nil=>exact fun _ _ h=>h
        | cons x l ih=>exact fun kk e h=>ih _ _ h
       exact key _ _ _ h
      | false =>
       rw [ha] at h
       simp only [aggK,cond_false] at h ⊢
       split at h
       ·rename_i c hc; simpa [hc] using h
       ·exact h.elim)
    exact ⟨v',w,m,av,H,by simp [Instr.loadAt,Instr.sureAddr,hrun],hV,hh,.refl _ _ _,hk⟩
 ·exact h.elim
def celK (x:AV) (k:List AV→Prop):Prop :=
 match x with
 | .un | .tp _ | .vw _ _ _ _ | .cv _=>False
 | .ag cs=>k cs
 | .d y=>match y with
  | .ag cs=>k (cs.map .d)
  | y=>k [.d y]
 | x=>k [x]
theorem celK_ok {x:AV} {k:List AV→Prop} (h:celK x k):x.plain=true∧k x.cells:=by
 unfold celK at h
 split at h <;> first
  | exact h.elim
  | (rename_i y; cases y <;> exact ⟨rfl,h⟩)
  | (cases x <;> first | exact ⟨rfl,h⟩ | (simp_all; done) | (exfalso; simp_all; rename_i hq; exact absurd rfl (hq _ _ _ _ rfl rfl rfl)))
def reK (e:AV) (cs:List AV) (k:AV→Prop):Prop :=
 match e with
 | .ag _=>mkAg cs k
 | .d y=>match y with
  | .ag _=>mkAg cs k
  | _=>match cs with
   | [c]=>k c
   | _=>False
 | _=>match cs with
  | [c]=>k c
  | _=>False
def stP (li:LI) (x v:AV) (H:Hp) (k:Hp→Prop):Prop :=
 celK v fun vs=>bif Nat.beq vs.length li.size then
  match x with
  | .pt κ o=>nthK H κ fun B=>match B with
   | some (.var cs)=>owK cs o vs fun cs'=>setK H κ (some (.var cs')) k
   | _=>False
  | .pe κ q j o=>nthK H κ fun B=>match B with
   | some (.arr q' es)=>bif Nat.beq q q' then elP es j fun e=>owK e.cells o vs fun cs'=>reK e cs' fun e'=>bif Nat.beq e'.cells.length q then lvS (es.set j e') fun es'=>setK H κ (some (.arr q es')) k else False else False
   | _=>False
  | _=>False
 else False
theorem reK_ok {e:AV} {cs:List AV} {k:AV→Prop} (h:reK e cs k):∃ e',k e'∧(e'.cells=cs∨(cs=[e'])):=by
 have hm:∀ cs:List AV,mkAg cs k→∃ e',k e'∧(e'.cells=cs∨(cs=[e'])):=by
  intro cs h
  rcases mkAg_ok h with ⟨ds,rfl,hk⟩ | hk
  ·exact ⟨_,hk,.inl rfl⟩
  ·exact ⟨_,hk,.inl rfl⟩
 have h1:∀ cs:List AV,(match cs with | [c]=>k c | _=>False)→∃ e',k e'∧(e'.cells=cs∨(cs=[e'])):=by
  intro cs h
  split at h
  ·exact ⟨_,h,.inr rfl⟩
  ·exact h.elim
 unfold reK at h
 split at h
 ·exact hm _ h
 ·split at h
  ·exact hm _ h
  ·exact h1 _ h
 ·exact h1 _ h
theorem run_storeVar {t:TypeId} {li:LI} {i:TypeInfo} {u:TypeDesc} {z:Value} (hl:LIs P t li i u z) {b o:Nat} {cur:Array Value} {el:TypeId} (hg:w.heap[b]?=some (.cells cur el (0,0)))
  (v:Value) (hs:v.cells.size=li.size) (h1:∀ x ∈ v.cells.toList,x.oneCell'=true) (hfit:o+v.cells.size≤cur.size) :
  (storeVar t ⟨b,o,none⟩ v).run P w=.ok () (w.setRow b (cur.toList.take o++v.cells.toList++cur.toList.drop (o+v.cells.size)).toArray):=by
 have hst:=run_storeCells_at P b o el v.cells.toList 0 cur w hg (by simpa using hfit) h1
 have e1:v.cells.size=i.size:=hs.trans hl.size
 simp only [Nat.add_zero,Array.length_toList] at hst
 simp [storeVar,sizeOf,typeInfo,hl.info,e1,hst]
theorem C.cells1 {v:Value} {c:AV} (h:C X m w v c):c.cells=[c]:=by
 obtain ⟨hV,h1⟩:=h
 cases hV with
 | d _ x hr=>cases hr <;> first | rfl | simp [Value.oneCell'] at h1
 | ag=>simp [Value.oneCell'] at h1
 | _=>rfl
theorem getElem?_over (cur vv:List Value) (o j:Nat) (hfit:o+vv.length≤cur.length) :
  (cur.take o++vv++cur.drop (o+vv.length))[j]?=if j < o then cur[j]? else if j < o+vv.length then vv[j - o]? else cur[j]?:=by
 by_cases h1:j < o
 ·rw [if_pos h1,List.append_assoc,List.getElem?_append_left (by simp; omega),List.getElem?_take,if_pos h1]
 ·rw [if_neg h1]
  have hlen:(cur.take o).length=o:=by simp; omega
  rw [List.append_assoc,List.getElem?_append_right (by omega),hlen]
  by_cases h2:j < o+vv.length
  ·rw [if_pos h2,List.getElem?_append_left (by omega)]
  ·rw [if_neg h2,List.getElem?_append_right (by omega),List.getElem?_drop]
   congr 1; omega
theorem st_ok {t:TypeId} {li:LI} {i:TypeInfo} {u:TypeDesc} {z:Value} (hl:LIs P t li i u z) {x av:AV} {v vx:Value} {k:Hp→Prop} (hx:V X m w vx x) (hv:V X m w v av) (hh:HRel X m H w)
  (h:stP li x av H k):∃ w' H',(Instr.storeAt t vx v).run P w=.ok () w'∧HRel X m H' w'∧Ext X m w m w'∧k H':=by
 unfold stP at h
 simp only [lvS_iff] at h
 replace h:=celK_ok h
 obtain ⟨hp,h⟩:=h
 obtain ⟨hsz,hcel⟩:=hv.cells hp
 cases hn:Nat.beq av.cells.length li.size with
 | false=>rw [hn] at h; exact h.elim
 | true =>
 rw [hn] at h
 have hn:=Nat.eq_of_beq_eq_true hn
 have hone:∀ x ∈ v.cells.toList,x.oneCell'=true:=by
  intro x hx
  obtain ⟨j,hj⟩:=List.getElem?_of_mem hx
  have hlt:j < av.cells.length:=by rw [← hsz]; simpa using (List.getElem?_eq_some_iff.1 hj).1
  obtain ⟨y,e,hC⟩:=hcel j _ (List.getElem?_eq_getElem hlt)
  rw [Array.getElem?_toList] at hj
  rw [hj] at e; cases e; exact hC.2
 simp only [cond_true] at h
 split at h
 ·rename_i κ o
  obtain ⟨B,hB,h⟩:=nthK_ok h
  split at h
  ·rename_i cs
   obtain ⟨hf,h⟩:=owK_ok h
   obtain ⟨hκ,h⟩:=setK_ok h
   cases hx with
   | pt _ _ _ hκ' _ hpt =>
   rcases hh.blk2 κ _ hB with ⟨b,vs,el,hb,hg,hR⟩ | ⟨_,_,hB0⟩
   case inr=>cases hB0
   have e:=hpt b hb
   subst e
   have hvl:cs.length≤vs.size:=by
    cases hc:cs.length with
    | zero=>omega
    | succ q =>
     obtain ⟨u,e,_⟩:=hR q _ (List.getElem?_eq_getElem (by omega))
     have:=(Array.getElem?_eq_some_iff.1 e).1
     omega
   have hrun:=run_storeVar (P:=P) (w:=w) hl (b:=b) (o:=o) hg v (by rw [hsz,hn]) hone (by rw [hsz]; omega)
   have hss:(vs.toList.take o++v.cells.toList++vs.toList.drop (o+v.cells.size)).toArray.size=vs.size:=by simp; omega
   refine ⟨_,_,by simp [Instr.storeAt,Instr.sureAddr,hrun],hh.setRow hb hB hg hss ?_,Ext.setRow hb hg hss,h⟩
   intro j c hc
   have hov:=getElem?_over vs.toList v.cells.toList o j (by simp; omega)
   simp only [Array.length_toList] at hov
   rw [List.getElem?_toArray,hov]
   by_cases h1:j < o
   ·rw [if_pos h1]
    rw [List.append_assoc,List.getElem?_append_left (by simp; omega),List.getElem?_take,if_pos h1] at hc
    simpa using hR j c hc
   ·rw [if_neg h1]
    have hlen:(cs.take o).length=o:=by simp; omega
    rw [List.append_assoc,List.getElem?_append_right (by omega),hlen] at hc
    by_cases h2:j < o+v.cells.size
    ·rw [if_pos h2]
     rw [List.getElem?_append_left (by omega)] at hc
     simpa using hcel (j - o) c hc
    ·rw [if_neg h2]
     rw [List.getElem?_append_right (by omega),List.getElem?_drop] at hc
     have e:o+av.cells.length+(j - o - av.cells.length)=j:=by omega
     rw [e] at hc
     simpa using hR j c hc
  ·exact h.elim
 ·rename_i κ q j o
  obtain ⟨B,hB,h⟩:=nthK_ok h
  split at h
  ·rename_i q' es
   cases hq:Nat.beq q q' with
   | false=>rw [hq] at h; exact h.elim
   | true =>
   rw [hq] at h
   obtain rfl:=Nat.eq_of_beq_eq_true hq
   simp only [cond_true] at h
   unfold elP at h
   obtain ⟨e,he,h⟩:=h
   obtain ⟨hf,h⟩:=owK_ok h
   obtain ⟨e',h,hre⟩:=reK_ok h
   cases hq2:Nat.beq e'.cells.length q with
   | false=>rw [hq2] at h; exact h.elim
   | true =>
   rw [hq2] at h
   have hq2:=Nat.eq_of_beq_eq_true hq2
   obtain ⟨hκ,h⟩:=setK_ok h
   cases hx with
   | pe _ _ _ _ _ hκ' _ hpt =>
   rcases hh.blk2 κ _ hB with ⟨b,vs,el,hb,hg,hR⟩ | ⟨_,_,hB0⟩
   case inr=>cases hB0; simp at he
   have e1:=hpt b hb
   subst e1
   have hek:e.cells.length=q:=hR.1 e (List.mem_of_getElem? he)
   have hvl:j * q+e.cells.length≤vs.size:=by
    cases hc:e.cells.length with
    | zero =>
     have hq0:q=0:=by omega
     rw [hq0]; simp
    | succ r =>
     obtain ⟨u,e2,_⟩:=hR.2 j e r _ he (List.getElem?_eq_getElem (by omega))
     have:=(Array.getElem?_eq_some_iff.1 e2).1
     omega
   have hrun:=run_storeVar (P:=P) (w:=w) hl (b:=b) (o:=j * q+o) hg v (by rw [hsz,hn]) hone (by rw [hsz]; omega)
   have hss:(vs.toList.take (j * q+o)++v.cells.toList++vs.toList.drop (j * q+o+v.cells.size)).toArray.size=vs.size:=by simp; omega
   refine ⟨_,_,by simp [Instr.storeAt,Instr.sureAddr,hrun],hh.setRow hb hB hg hss ?_,Ext.setRow hb hg hss,h⟩
   have hcells':e'.cells=e.cells.take o++av.cells++e.cells.drop (o+av.cells.length):=by
    rcases hre with hre | hre
    ·exact hre
    ·have hmem:e' ∈ e.cells.take o++av.cells++e.cells.drop (o+av.cells.length):=by rw [hre]; simp
     have hC:∃ u,C X m w u e':=by
      rcases List.mem_append.1 hmem with hm1 | hm1
      ·rcases List.mem_append.1 hm1 with hm2 | hm2
       ·obtain ⟨l,hl2⟩:=List.getElem?_of_mem (List.mem_of_mem_take hm2)
        obtain ⟨u,_,hC⟩:=hR.2 j e l _ he hl2
        exact ⟨u,hC⟩
       ·obtain ⟨l,hl2⟩:=List.getElem?_of_mem hm2
        obtain ⟨u,_,hC⟩:=hcel l _ hl2
        exact ⟨u,hC⟩
      ·obtain ⟨l,hl2⟩:=List.getElem?_of_mem (List.mem_of_mem_drop hm1)
       obtain ⟨u,_,hC⟩:=hR.2 j e l _ he hl2
       exact ⟨u,hC⟩
     obtain ⟨u,hC⟩:=hC
     rw [hre]
     exact hC.cells1
   refine ⟨fun e2 he2=>?_,fun j2 e2 l c hj2 hc=>?_⟩
   ·rcases List.mem_or_eq_of_mem_set he2 with hm | rfl
    ·exact hR.1 _ hm
    ·exact hq2
   ·have hov:=getElem?_over vs.toList v.cells.toList (j * q+o) (j2 * q+l) (by simp; omega)
    simp only [Array.length_toList] at hov
    rw [List.getElem?_toArray,hov]
    rw [List.getElem?_set] at hj2
    have hjl:j < es.length:=(List.getElem?_eq_some_iff.1 he).1
    by_cases hjj:j=j2
    ·subst hjj
     simp [hjl] at hj2
     subst hj2
     rw [hcells'] at hc
     have hll:l < q:=by
      have:=(List.getElem?_eq_some_iff.1 hc).1
      rw [← hcells',hq2] at this; exact this
     by_cases h1:l < o
     ·rw [if_pos (by omega)]
      rw [List.append_assoc,List.getElem?_append_left (by simp; omega),List.getElem?_take,if_pos h1] at hc
      simpa using hR.2 j e l c he hc
     ·rw [if_neg (by omega)]
      have hlen:(e.cells.take o).length=o:=by simp; omega
      rw [List.append_assoc,List.getElem?_append_right (by omega),hlen] at hc
      by_cases h2:l < o+v.cells.size
      ·rw [if_pos (by omega)]
       rw [List.getElem?_append_left (by omega)] at hc
       have e3:j * q+l - (j * q+o)=l - o:=by omega
       rw [e3]
       simpa using hcel (l - o) c hc
      ·rw [if_neg (by omega)]
       rw [List.getElem?_append_right (by omega),List.getElem?_drop] at hc
       have e3:o+av.cells.length+(l - o - av.cells.length)=l:=by omega
       rw [e3] at hc
       simpa using hR.2 j e l c he hc
    ·simp [hjj] at hj2
     have hl2:l < q:=by
      have:=(List.getElem?_eq_some_iff.1 hc).1
      rwa [hR.1 e2 (List.mem_of_getElem? hj2)] at this
     have:=hR.2 j2 e2 l c hj2 hc
     rcases Nat.lt_or_gt_of_ne hjj with hlt | hgt
     ·have:j * q+q≤j2 * q:=by
       have:=Nat.mul_le_mul_right q (Nat.succ_le_of_lt hlt)
       rwa [Nat.succ_mul] at this
      rw [if_neg (by omega),if_neg (by omega)]
      simpa using hR.2 j2 e2 l c hj2 hc
     ·have:j2 * q+q≤j * q:=by
       have:=Nat.mul_le_mul_right q (Nat.succ_le_of_lt hgt)
       rwa [Nat.succ_mul] at this
      rw [if_pos (by omega)]
      simpa using hR.2 j2 e2 l c hj2 hc
  ·exact h.elim
 ·exact h.elim
end Go.Abs
