/- append and reslicing: the abstract operations and why they are sound. No condition. -/
import Derived.Test.YthandbiapckgkaaZA7
namespace Go.Abs
variable {P:Program} {X:Nat→Prop} {m m':Mp} {H:Hp} {w w':World}
@[irreducible] def sxP (es:List AV) (off n:Nat) (k:List AV→Prop):Prop:=∃ xs,(es.drop off).take n=xs∧xs.length=n∧k xs
theorem sxP_all {es:List AV} {n:Nat} {k:List AV→Prop} (hl:n=es.length) (hk:k es):sxP es 0 n k:=by unfold sxP; exact ⟨es,by subst hl; simp,hl.symm,hk⟩
def exK (q:Nat) (x:AV) (H:Hp) (k:List AV→Prop):Prop :=
 match x with
 | .nsl=>k []
 | .d (.ls ds)=>k (ds.map .d)
 | .sl κ q' off n=>bif Nat.beq q' q then nthK H κ fun B=>match B with
   | some (.arr q'' es)=>bif Nat.beq q'' q then sxP es off n k else False
   | _=>False
  else False
 | .vw κ q' off n=>bif Nat.beq q' q then nthK H κ fun B=>match B with
   | some (.arr q'' es)=>bif Nat.beq q'' q then sxP es off n k else False
   | _=>False
  else False
 | _=>False
def Holds (X:Nat→Prop) (m:Mp) (w:World) (q:Nat) (v:Value) (xs:List AV):Prop :=
 ∃ (base:Option Addr) (cap:Nat),v=.slice base xs.length cap∧xs.length≤cap∧(∀ e,e ∈ xs→e.cells.length=q) ∧
  ((xs=[]∧cap=0)∨∃ (b o:Nat) (news:List Value),base=some ⟨b,o,none⟩∧news.length=xs.length * q∧(∀ (j:Nat) v,news[j]?=some v→w.cell? ⟨b,o+j,none⟩=some v) ∧
   (∀ v,v ∈ news→v.oneCell'=true)∧∀ (j:Nat) e (l:Nat) c,xs[j]?=some e→e.cells[l]?=some c→∃ v,news[j * q+l]?=some v∧C X m w v c)
theorem news_of {xs:List AV} {q b o:Nat} (hq:∀ e,e ∈ xs→e.cells.length=q) (h:∀ (j:Nat) e (l:Nat) c,xs[j]?=some e→e.cells[l]?=some c→∃ v,w.cell? ⟨b,o+(j * q+l),none⟩=some v∧C X m w v c) :
  ∃ news:List Value,news.length=xs.length * q∧(∀ (j:Nat) v,news[j]?=some v→w.cell? ⟨b,o+j,none⟩=some v)∧(∀ v,v ∈ news→v.oneCell'=true) ∧
   ∀ (j:Nat) e (l:Nat) c,xs[j]?=some e→e.cells[l]?=some c→∃ v,news[j * q+l]?=some v∧C X m w v c:=by
 have key:∀ p,p < xs.length * q→∃ v c,w.cell? ⟨b,o+p,none⟩=some v∧C X m w v c:=by
  intro p hp
  have hq0:0 < q:=by
   rcases Nat.eq_zero_or_pos q with h0 | h0
   ·subst h0; simp at hp
   ·exact h0
  have hj:p / q < xs.length:=(Nat.div_lt_iff_lt_mul hq0).2 hp
  have hl:p % q < xs[p / q].cells.length:=by rw [hq _ (List.getElem_mem hj)]; exact Nat.mod_lt _ hq0
  obtain ⟨v,e,hC⟩:=h (p / q) xs[p / q] (p % q) _ (List.getElem?_eq_getElem hj) (List.getElem?_eq_getElem hl)
  have e1:p / q * q+p % q=p:=by rw [Nat.mul_comm]; exact Nat.div_add_mod p q
  rw [e1] at e
  exact ⟨v,_,e,hC⟩
 refine ⟨(List.range (xs.length * q)).map fun p=>(w.cell? ⟨b,o+p,none⟩).getD undef,by simp,fun j v hj=>?_,fun v hv=>?_,fun j e l c he hc=>?_⟩
 ·rw [List.getElem?_map,Option.map_eq_some_iff] at hj
  obtain ⟨p,hp,rfl⟩:=hj
  have hpl:=(List.getElem?_eq_some_iff.1 hp).1
  rw [List.length_range] at hpl
  rw [List.getElem?_range hpl] at hp
  cases hp
  obtain ⟨v,c,e,_⟩:=key j hpl
  rw [e]; rfl
 ·obtain ⟨p,hp,rfl⟩:=List.mem_map.1 hv
  rw [List.mem_range] at hp
  obtain ⟨v,c,e,hC⟩:=key p hp
  rw [e]; exact hC.2
 ·obtain ⟨v,e',hC⟩:=h j e l c he hc
  have hjl:j < xs.length:=(List.getElem?_eq_some_iff.1 he).1
  have hll:l < q:=by rw [← hq e (List.mem_of_getElem? he)]; exact (List.getElem?_eq_some_iff.1 hc).1
  have hlt:j * q+l < xs.length * q:=by
   have:=Nat.mul_le_mul_right q (Nat.succ_le_of_lt hjl)
   rw [Nat.succ_mul] at this
   omega
  refine ⟨v,?_,hC⟩
  rw [List.getElem?_map,List.getElem?_range hlt]
  simp [e']
theorem ex_ok {q:Nat} {x:AV} {v:Value} {k:List AV→Prop} (hv:V X m w v x) (hh:HRel X m H w) (h:exK q x H k):∃ xs,((∃ ds,x=.d (.ls ds)∧xs=ds.map .d∧((∀ e,e ∈ xs→e.cells.length=q)→Holds X m w q v xs))∨Holds X m w q v xs)∧k xs:=by
 unfold exK at h
 cases hv with
 | nsl=>exact ⟨[],.inr ⟨none,0,rfl,Nat.le_refl _,(fun _ h=>by cases h),.inl ⟨rfl,rfl⟩⟩,h⟩
 | d _ x hr =>
  cases hr with
  | nil=>exact ⟨_,.inr ⟨none,0,rfl,by simp,(fun _ h=>by simp at h),.inl ⟨by simp,rfl⟩⟩,h⟩
  | lz a=>exact ⟨_,.inr ⟨some a,0,rfl,by simp,(fun _ h=>by simp at h),.inl ⟨by simp,rfl⟩⟩,h⟩
  | ls bk off cap q' es vs hI hc hk hw hvs =>
   refine ⟨es.map .d,.inl ⟨es,rfl,rfl,fun hall=>?_⟩,h⟩
   have hqq:∀ e,e ∈ es→q'=q:=fun e he=>by
    have:=hall (.d e) (List.mem_map_of_mem he)
    simp only [AV.cells,List.length_map] at this
    rw [← hk e he]; exact this
   obtain ⟨news,h1,h2,h3,h4⟩:=news_of (X:=X) (m:=m) (w:=w) (xs:=es.map .d) (q:=q) (b:=bk) (o:=off) hall (fun j e l c he hc=>by
    rw [List.getElem?_map,Option.map_eq_some_iff] at he
    obtain ⟨e',he',rfl⟩:=he
    simp only [AV.cells,List.getElem?_map,Option.map_eq_some_iff] at hc
    obtain ⟨c',hc',rfl⟩:=hc
    have:=hqq e' (List.mem_of_getElem? he')
    subst this
    obtain ⟨a1,a2⟩:=hw j e' l c' he' hc'
    exact ⟨vs j l,by rw [← Nat.add_assoc]; exact a1,.d _ _ (hvs j e' l c' he' hc'),a2⟩)
   exact ⟨some ⟨bk,off,none⟩,cap,by simp,by simpa using hc,hall,.inr ⟨bk,off,news,rfl,h1,h2,h3,h4⟩⟩
  | _=>exact h.elim
 | sl _ κ q' off n hκ h1 hb0 hn0 =>
  dsimp only at h
  cases hq:Nat.beq q' q with
  | false=>rw [hq] at h; exact h.elim
  | true =>
   rw [hq] at h
   obtain rfl:=Nat.eq_of_beq_eq_true hq
   replace h:=nthK_ok h
   obtain ⟨B,hB,h⟩:=h
   split at h
   ·rename_i q'' es
    cases hq2:Nat.beq q'' q' with
    | false=>rw [hq2] at h; exact h.elim
    | true =>
     rw [hq2] at h
     obtain rfl:=Nat.eq_of_beq_eq_true hq2
     simp only [cond_true] at h
     unfold sxP at h
     obtain ⟨xs,hxs,hlen,h⟩:=h
     refine ⟨xs,.inr ?_,h⟩
     rcases hh.blk2 κ _ hB with ⟨b,vs,el,hb,hg,hR⟩ | ⟨hm,q0,hB0⟩
     ·obtain ⟨cap,e,hn,hroom⟩:=hb0 b hb
      subst e
      have hsub:∀ (j:Nat) e,xs[j]?=some e→es[off+j]?=some e:=by
       intro j e he
       rw [← hxs,List.getElem?_take] at he
       split at he
       ·rwa [List.getElem?_drop] at he
       ·cases he
      have hall:∀ e,e ∈ xs→e.cells.length=q'':=fun e he=>by
       obtain ⟨j,hj⟩:=List.getElem?_of_mem he
       exact hR.1 e (List.mem_of_getElem? (hsub j e hj))
      obtain ⟨news,a1,a2,a3,a4⟩:=news_of (X:=X) (m:=m) (w:=w) (xs:=xs) (q:=q'') (b:=b) (o:=off * q'') hall (fun j e l c he hc=>by
       obtain ⟨u,hu,hC⟩:=hR.2 (off+j) e l c (hsub j e he) hc
       refine ⟨u,?_,hC⟩
       rw [cell_of_row w b _ vs el _ hg,← Nat.add_assoc,← Nat.add_mul]
       exact hu)
      exact ⟨some ⟨b,off * q'',none⟩,cap,by rw [hlen],by omega,hall,.inr ⟨b,off * q'',news,rfl,a1,a2,a3,a4⟩⟩
     ·obtain ⟨e,h0⟩:=hn0 hm
      subst e
      have:xs=[]:=List.eq_nil_of_length_eq_zero (by omega)
      subst this
      exact ⟨none,0,rfl,Nat.le_refl _,(fun _ h=>by cases h),.inl ⟨rfl,rfl⟩⟩
   ·exact h.elim
 | vw _ κ q' off n hκ hb0 hn0 =>
  dsimp only at h
  cases hq:Nat.beq q' q with
  | false=>rw [hq] at h; exact h.elim
  | true =>
   rw [hq] at h
   obtain rfl:=Nat.eq_of_beq_eq_true hq
   replace h:=nthK_ok h
   obtain ⟨B,hB,h⟩:=h
   split at h
   ·rename_i q'' es
    cases hq2:Nat.beq q'' q' with
    | false=>rw [hq2] at h; exact h.elim
    | true =>
     rw [hq2] at h
     obtain rfl:=Nat.eq_of_beq_eq_true hq2
     simp only [cond_true] at h
     unfold sxP at h
     obtain ⟨xs,hxs,hlen,h⟩:=h
     refine ⟨xs,.inr ?_,h⟩
     rcases hh.blk2 κ _ hB with ⟨b,vs,el,hb,hg,hR⟩ | ⟨hm,q0,hB0⟩
     ·obtain ⟨base,cap,e,hn,hroom⟩:=hb0 b hb
      subst e
      rcases hroom with hroom | hroom
      ·have:xs=[]:=List.eq_nil_of_length_eq_zero (by omega)
       subst this
       exact ⟨some ⟨b,base,none⟩,cap,by rw [← hlen],by omega,(fun _ h=>by cases h),.inr ⟨b,base,[],rfl,by simp,(fun j v h=>by simp at h),(fun v h=>by cases h),fun j e l c h=>by simp at h⟩⟩
      ·subst hroom
       have hsub:∀ (j:Nat) e,xs[j]?=some e→es[off+j]?=some e:=by
        intro j e he
        rw [← hxs,List.getElem?_take] at he
        split at he
        ·rwa [List.getElem?_drop] at he
        ·cases he
       have hall:∀ e,e ∈ xs→e.cells.length=q'':=fun e he=>by
        obtain ⟨j,hj⟩:=List.getElem?_of_mem he
        exact hR.1 e (List.mem_of_getElem? (hsub j e hj))
       obtain ⟨news,a1,a2,a3,a4⟩:=news_of (X:=X) (m:=m) (w:=w) (xs:=xs) (q:=q'') (b:=b) (o:=off * q'') hall (fun j e l c he hc=>by
        obtain ⟨u,hu,hC⟩:=hR.2 (off+j) e l c (hsub j e he) hc
        refine ⟨u,?_,hC⟩
        rw [cell_of_row w b _ vs el _ hg,← Nat.add_assoc,← Nat.add_mul]
        exact hu)
       exact ⟨some ⟨b,off * q'',none⟩,cap,by rw [hlen],by omega,hall,.inr ⟨b,off * q'',news,rfl,a1,a2,a3,a4⟩⟩
     ·obtain ⟨e,h0⟩:=hn0 hm
      subst e
      have:xs=[]:=List.eq_nil_of_length_eq_zero (by omega)
      subst this
      exact ⟨none,0,rfl,Nat.le_refl _,(fun _ h=>by cases h),.inl ⟨rfl,rfl⟩⟩
   ·exact h.elim
 | _=>exact h.elim
/- Letting blocks go: what they held is immutable from then on. -/
def mapK (f:AV→Hp→(D→Hp→Prop)→Prop):List AV→Hp→(List D→Hp→Prop)→Prop
 | [],H,k=>k [] H
 | x::l,H,k=>f x H fun d H1=>mapK f l H1 fun ds H2=>k (d::ds) H2
def FOK (X:Nat→Prop) (w:World) (f:AV→Hp→(D→Hp→Prop)→Prop):Prop :=
 ∀ (x:AV) (H:Hp) (k:D→Hp→Prop) (m:Mp) (v:Value),f x H k→V X m w v x→HRel X m H w→∃ m' H' d,HRel X m' H' w∧Ext X m w m' w∧Rd (Imm X m' w) w v d∧k d H'
def FOKL (X:Nat→Prop) (w:World) (f:AV→Hp→(D→Hp→Prop)→Prop):Prop :=
 ∀ (x:AV) (H:Hp) (k:D→Hp→Prop) (m:Mp) (v:Value),f x H k→V X m w v x→HRel X m H w→∃ m' H' d,HRel X m' H' w∧(Ext X m w m' w∧m'.length=m.length)∧Rd (Imm X m' w) w v d∧k d H'
theorem FOKL.fok {f:AV→Hp→(D→Hp→Prop)→Prop} (h:FOKL X w f):FOK X w f:=fun x H k m v h1 h2 h3 =>
 let ⟨m',H',d,a,b,c,e⟩:=h x H k m v h1 h2 h3
 ⟨m',H',d,a,b.1,c,e⟩
theorem mapKL_ok {f:AV→Hp→(D→Hp→Prop)→Prop} (hf:FOKL X w f):∀ (l:List AV) (H:Hp) (k:List D→Hp→Prop) (m:Mp) (vs:List Value),mapK f l H k→(vs.length=l.length∧∀ (j:Nat) v c,vs[j]?=some v→l[j]?=some c→V X m w v c)→HRel X m H w →
  ∃ m' H' ds,HRel X m' H' w∧(Ext X m w m' w∧m'.length=m.length)∧(vs.length=ds.length∧∀ (j:Nat) v c,vs[j]?=some v→ds[j]?=some c→Rd (Imm X m' w) w v c)∧k ds H'
 | [],H,k,m,vs,h,hv,hh=>⟨m,H,[],hh,⟨.refl _ _ _,rfl⟩,⟨hv.1,fun j v c _ hc=>by simp at hc⟩,h⟩
 | x::l,H,k,m,vs,h,hv,hh=>by
  cases vs with
  | nil=>simp at hv
  | cons v vs =>
   obtain ⟨m1,H1,d,hh1,⟨hx1,hl1⟩,hr1,h1⟩:=hf x H _ m v h (hv.2 0 v x rfl rfl) hh
   obtain ⟨m2,H2,ds,hh2,⟨hx2,hl2⟩,hr2,h2⟩:=mapKL_ok hf l H1 _ m1 vs h1 ⟨by simpa using hv.1,fun j u c hu hc=>(hv.2 (j+1) u c (by simpa using hu) (by simpa using hc)).ext hx1⟩ hh1
   refine ⟨m2,H2,d::ds,hh2,⟨hx1.trans hx2,hl2.trans hl1⟩,⟨by simpa using hr2.1,fun j u c hu hc=>?_⟩,h2⟩
   cases j with
   | zero=>simp at hu hc; subst hu; subst hc; exact hr1.ext hx2
   | succ j=>exact hr2.2 j u c (by simpa using hu) (by simpa using hc)
theorem mapK_ok' {f:AV→Hp→(D→Hp→Prop)→Prop} (hf:FOKL X w f) (l:List AV) (H:Hp) (k:List D→Hp→Prop) (m:Mp) (vs:List Value) (h:mapK f l H k) (hv:vs.length=l.length∧∀ (j:Nat) v c,vs[j]?=some v→l[j]?=some c→V X m w v c) (hh:HRel X m H w) :
  ∃ m' H' ds,HRel X m' H' w∧Ext X m w m' w∧(vs.length=ds.length∧∀ (j:Nat) v c,vs[j]?=some v→ds[j]?=some c→Rd (Imm X m' w) w v c)∧k ds H' :=
 let ⟨m',H',ds,a,b,c,e⟩:=mapKL_ok hf l H k m vs h hv hh
 ⟨m',H',ds,a,b.1,c,e⟩
theorem elem_val {e:AV} {seg:List Value} (hl:seg.length=e.cells.length) (hC:∀ (l:Nat) c,e.cells[l]?=some c→∃ u,seg[l]?=some u∧C X m w u c):∃ v,V X m w v e∧v.cells.toList=seg:=by
 have leaf:e.cells=[e]→∃ v,V X m w v e∧v.cells.toList=seg:=by
  intro h
  obtain ⟨u,hu,hc⟩:=hC 0 e (by rw [h]; rfl)
  rw [h] at hl
  match seg,hl,hu with
  | [a],_,hu =>
   simp at hu
   subst hu
   refine ⟨a,hc.1,?_⟩
   have h1:=hc.2
   cases a <;> first | rfl | simp [Value.oneCell'] at h1
 have aggr:∀ cs:List AV,e.cells=cs→seg.toArray.size=cs.length∧∀ (j:Nat) c,cs[j]?=some c→∃ v,seg.toArray[j]?=some v∧C X m w v c:=by
  intro cs h
  refine ⟨by simpa [h] using hl,fun j c hc=>?_⟩
  obtain ⟨u,hu,hcc⟩:=hC j c (by rw [h]; exact hc)
  exact ⟨u,by simpa using hu,hcc⟩
 cases e with
 | ag cs =>
  obtain ⟨a,b⟩:=aggr cs rfl
  exact ⟨.agg seg.toArray,V.mkAg a b,by simp [Value.cells]⟩
 | d y =>
  cases y with
  | ag ds =>
   obtain ⟨a,b⟩:=aggr (ds.map .d) rfl
   exact ⟨.agg seg.toArray,V.mkAgD (by simpa using a) b,by simp [Value.cells]⟩
  | _=>exact leaf rfl
 | _=>exact leaf rfl
theorem Holds.frzF {f0:AV→Hp→(D→Hp→Prop)→Prop} (hf0:FOKL X w f0) {q:Nat} {v:Value} {xs:List AV} {k:List D→Hp→Prop} (hv:Holds X m w q v xs) (hh:HRel X m H w) (h:mapK f0 xs H k) :
  ∃ m' H' ds,HRel X m' H' w∧(Ext X m w m' w∧m'.length=m.length)∧Holds X m' w q v (ds.map .d)∧k ds H':=by
 obtain ⟨base,cap,hv,hcap,hall,hb⟩:=hv
 rcases hb with ⟨rfl,rfl⟩ | ⟨b,o,news,rfl,hlen,hcell,hone,hnews⟩
 ·exact ⟨m,H,[],hh,⟨.refl _ _ _,rfl⟩,⟨base,0,hv,Nat.le_refl _,(fun _ h=>by cases h),.inl ⟨rfl,rfl⟩⟩,h⟩
 ·have hval:∀ j:Nat,∃ u:Value,∀ e,xs[j]?=some e→V X m w u e∧∀ l,l < q→u.cells[l]?=news[j * q+l]?∧u.cells.size=q:=by
   intro j
   cases he:xs[j]? with
   | none=>exact ⟨undef,fun e h=>by cases h⟩
   | some e =>
    have hq:=hall e (List.mem_of_getElem? he)
    have hjl:j < xs.length:=(List.getElem?_eq_some_iff.1 he).1
    have hle:j * q+q≤news.length:=by
     rw [hlen]
     have:=Nat.mul_le_mul_right q (Nat.succ_le_of_lt hjl)
     rwa [Nat.succ_mul] at this
    obtain ⟨u,hu,hc⟩:=elem_val (X:=X) (m:=m) (w:=w) (e:=e) (seg:=(news.drop (j * q)).take q) (by simp [hq]; omega) (fun l c hc=>by
     have hll:l < q:=by rw [← hq]; exact (List.getElem?_eq_some_iff.1 hc).1
     obtain ⟨u,e1,hC⟩:=hnews j e l c he hc
     exact ⟨u,by rw [List.getElem?_take,if_pos hll,List.getElem?_drop]; exact e1,hC⟩)
    refine ⟨u,fun e' h=>?_⟩
    cases h
    refine ⟨hu,fun l hl=>⟨?_,?_⟩⟩
    ·rw [← Array.getElem?_toList,hc,List.getElem?_take,if_pos hl,List.getElem?_drop]
    ·have:=congrArg List.length hc
     simp at this
     omega
  obtain ⟨f,hf⟩:=Classical.axiomOfChoice hval
  obtain ⟨m',H',ds,hh',⟨hx,hlx⟩,hds,hk⟩:=mapKL_ok hf0 xs H k m ((List.range xs.length).map f) h ⟨by simp,fun j v c hv hc=>by
   have hjl:=(List.getElem?_eq_some_iff.1 hc).1
   rw [List.getElem?_map,List.getElem?_range hjl] at hv
   simp at hv
   subst hv
   exact (hf j c hc).1⟩ hh
  have hdl:ds.length=xs.length:=by have:=hds.1; simp at this; omega
  have hpt:∀ (j:Nat) d,ds[j]?=some d→∃ e,xs[j]?=some e∧Rd (Imm X m' w) w (f j) d:=by
   intro j d hd
   have hjl:j < xs.length:=by rw [← hdl]; exact (List.getElem?_eq_some_iff.1 hd).1
   exact ⟨xs[j],List.getElem?_eq_getElem hjl,hds.2 j (f j) d (by rw [List.getElem?_map,List.getElem?_range hjl]; rfl) hd⟩
  have hq0:∀ (j:Nat) d,ds[j]?=some d→d.cells.length=q:=by
   intro j d hd
   obtain ⟨e,he,hr⟩:=hpt j d hd
   obtain ⟨a,_⟩:=hr.cells
   have hcl:=hall e (List.mem_of_getElem? he)
   obtain ⟨hV,hsz⟩:=hf j e he
   rcases Nat.eq_zero_or_pos q with h0 | h0
   ·by_cases hp:e.plain=true
    ·rw [← a,(hV.cells hp).1,hcl]
    ·cases e <;> simp [AV.plain] at hp <;> simp [AV.cells] at hcl <;> omega
   ·rw [← a]; exact (hsz 0 h0).2
  refine ⟨m',H',ds,hh',⟨hx,hlx⟩,⟨some ⟨b,o,none⟩,cap,by simpa [hdl] using hv,by simpa [hdl] using hcap,fun e he=>?_,.inr ⟨b,o,news,rfl,by simp [hdl,hlen],hcell,hone,fun j e l c he hc=>?_⟩⟩,hk⟩
  ·obtain ⟨d,hd,rfl⟩:=List.mem_map.1 he
   obtain ⟨j,hj⟩:=List.getElem?_of_mem hd
   simpa [AV.cells] using hq0 j d hj
  ·rw [List.getElem?_map,Option.map_eq_some_iff] at he
   obtain ⟨d,hd,rfl⟩:=he
   simp only [AV.cells,List.getElem?_map,Option.map_eq_some_iff] at hc
   obtain ⟨c',hc',rfl⟩:=hc
   obtain ⟨e,he,hr⟩:=hpt j d hd
   obtain ⟨_,hcs⟩:=hr.cells
   obtain ⟨u,hu,hru,h1⟩:=hcs l c' hc'
   have hll:l < q:=by rw [← hq0 j d hd]; exact (List.getElem?_eq_some_iff.1 hc').1
   refine ⟨u,?_,.d _ _ hru,h1⟩
   rw [← ((hf j e he).2 l hll).1]; exact hu
@[irreducible] def frE (f:AV→Hp→(D→Hp→Prop)→Prop) (es:List AV) (len:Nat) (H:Hp) (k:List D→Hp→Prop):Prop:=(∃ ds,es=ds.map .d∧len=ds.length∧k ds H)∨(len=es.length∧mapK f es H k)
theorem frE_ds {f:AV→Hp→(D→Hp→Prop)→Prop} {es:List AV} {len:Nat} {k:List D→Hp→Prop} (ds:List D) (h:es=ds.map .d) (hl:len=ds.length) (hk:k ds H):frE f es len H k:=by unfold frE; exact .inl ⟨ds,h,hl,hk⟩
theorem frE_in {f:AV→Hp→(D→Hp→Prop)→Prop} {es:List AV} {len:Nat} {k:List D→Hp→Prop} (hl:len=es.length) (hk:mapK f es H k):frE f es len H k:=by unfold frE; exact .inr ⟨hl,hk⟩
def frz:Nat→AV→Hp→(D→Hp→Prop)→Prop
 | 0,_,_,_=>False
 | n+1,x,H,k=>match x with
  | .d y=>k y H
  | .nsl=>k (.ls []) H
  | .sl κ q off len=>bif Nat.beq off 0 then nthK H κ fun B=>match B with
    | some (.arr q' es)=>bif Nat.beq q' q then frE (frz n) es len H fun ds H1=>setK H1 κ none fun H'=>k (.ls ds) H' else False
    | _=>False
   else False
  | .pt κ off=>bif Nat.beq off 0 then nthK H κ fun B=>match B with
    | some (.var cs)=>setK H κ none fun H1=>mapK (frz n) cs H1 fun ds H2=>k (.ro ds) H2
    | _=>False
   else False
  | .ag cs=>mapK (frz n) cs H fun ds H'=>k (.ag ds) H'
  | .fn f cs=>mapK (frz n) cs H fun ds H'=>k (.fn f ds) H'
  | .fm f cs=>mapK (frz n) cs H fun ds H'=>k (.fm f ds) H'
  | _=>False
theorem imm_killed {κ b:Nat} (hh:HRel X m H w) (hb:m[κ]?=some (.blk b)):Imm X (m.set κ .dead) w b:=by
 obtain ⟨h1,h2⟩:=hh.lt κ b hb
 refine ⟨h1,h2,fun hmem=>?_⟩
 obtain ⟨j,hj⟩:=get_of_mem hmem
 rw [List.getElem?_set] at hj
 by_cases he:κ=j
 ·simp [he] at hj
 ·simp [he] at hj
  exact he (hh.inj _ _ _ hb hj)
theorem setK_none {κ:Nat} {k:Hp→Prop} (h:setK H κ none k):k (H.set κ none):=(setK_ok h).2
theorem Rd.of_holds {q:Nat} {v:Value} {ds:List D} (h:Holds X m w q v (ds.map .d)) (hb:∀ b o n c,v=.slice (some ⟨b,o,none⟩) n c→Imm X m w b):Rd (Imm X m w) w v (.ls ds):=by
 obtain ⟨base,cap,hv,hcap,hall,hbb⟩:=h
 rcases hbb with ⟨h0,rfl⟩ | ⟨b,o,news,rfl,hlen,hcell,hone,hnews⟩
 ·have:ds=[]:=by simpa using h0
  subst this
  simp at hv
  rw [hv]
  cases base with
  | none=>exact .nil
  | some a=>exact .lz a
 ·subst hv
  have hI:=hb b o _ _ rfl
  rw [List.length_map] at hcap ⊢
  have hget:∀ (j:Nat) e (l:Nat) c,ds[j]?=some e→e.cells[l]?=some c→∃ v,w.cell? ⟨b,o+j * q+l,none⟩=some v∧C X m w v (.d c):=by
   intro j e l c he hc
   obtain ⟨v,e1,hC⟩:=hnews j (.d e) l (.d c) (by simp [he]) (by simp [AV.cells,hc])
   exact ⟨v,by rw [Nat.add_assoc]; exact hcell _ _ e1,hC⟩
  refine .ls b o cap q ds (fun j l=>(w.cell? ⟨b,o+j * q+l,none⟩).getD undef) hI hcap (fun e he=>?_) (fun j e l c he hc=>?_) (fun j e l c he hc=>?_)
  ·have:=hall (.d e) (List.mem_map_of_mem he)
   simpa [AV.cells] using this
  ·obtain ⟨v,e1,hC⟩:=hget j e l c he hc
   rw [e1]; exact ⟨rfl,hC.2⟩
  ·obtain ⟨v,e1,hC⟩:=hget j e l c he hc
   rw [e1]; exact Rd.of_V hC.1
theorem frzL_ok:∀ n,FOKL X w (frz n)
 | 0=>fun _ _ _ _ _ h=>h.elim
 | n+1=>by
  intro x H k m v h hv hh
  cases hv with
  | d _ y hr=>exact ⟨m,H,y,hh,⟨.refl _ _ _,rfl⟩,hr,h⟩
  | nsl=>exact ⟨m,H,_,hh,⟨.refl _ _ _,rfl⟩,.nil,h⟩
  | ag vs cs hl h1 hc =>
   obtain ⟨m',H',ds,hh',⟨hx,hlx⟩,hds,hk⟩:=mapKL_ok (frzL_ok n) cs H _ m vs.toList h ⟨by simpa using hl,fun j v c hv hc'=>hc j v c (by simpa using hv) hc'⟩ hh
   exact ⟨m',H',.ag ds,hh',⟨hx,hlx⟩,.ag vs ds (by simpa using hds.1) h1 (fun j v c hv hc'=>hds.2 j v c (by simpa using hv) hc'),hk⟩
  | fn f vs cs hl hc =>
   obtain ⟨m',H',ds,hh',⟨hx,hlx⟩,hds,hk⟩:=mapKL_ok (frzL_ok n) cs H _ m vs.toList h ⟨by simpa using hl,fun j v c hv hc'=>hc j v c (by simpa using hv) hc'⟩ hh
   exact ⟨m',H',.fn f ds,hh',⟨hx,hlx⟩,.fn f vs ds (by simpa using hds.1) (fun j v c hv hc'=>hds.2 j v c (by simpa using hv) hc'),hk⟩
  | fm f vs cs hl hc =>
   obtain ⟨m',H',ds,hh',⟨hx,hlx⟩,hds,hk⟩:=mapKL_ok (frzL_ok n) cs H _ m vs.toList h ⟨by simpa using hl,fun j v c hv hc'=>hc j v c (by simpa using hv) hc'⟩ hh
   exact ⟨m',H',.fm f ds,hh',⟨hx,hlx⟩,.fm f vs ds (by simpa using hds.1) (fun j v c hv hc'=>hds.2 j v c (by simpa using hv) hc'),hk⟩
  | sl _ κ q off len hκ h1 hb0 hn0 =>
   simp only [frz] at h
   cases ho:Nat.beq off 0 with
   | false=>rw [ho] at h; exact h.elim
   | true =>
   rw [ho] at h
   obtain rfl:=Nat.eq_of_beq_eq_true ho
   replace h:=nthK_ok h
   obtain ⟨B,hB,h⟩:=h
   split at h
   ·rename_i q' es
    cases hq:Nat.beq q' q with
    | false=>rw [hq] at h; exact h.elim
    | true =>
    rw [hq] at h
    obtain rfl:=Nat.eq_of_beq_eq_true hq
    simp only [cond_true] at h
    unfold frE at h
    rcases h with ⟨ds,rfl,rfl,h⟩ | ⟨hlen,h⟩
    ·have hk:=setK_none h
     rcases hh.blk2 κ _ hB with ⟨b,vs,el,hb,hg,hR⟩ | ⟨hm,q0,hB0⟩
     ·obtain ⟨cap,e,hn,hroom⟩:=hb0 b hb
      subst e
      refine ⟨m.set κ .dead,H.set κ none,.ls ds,hh.kill κ,⟨Ext.kill κ,List.length_set⟩,?_,hk⟩
      have hcell:∀ (j:Nat) e (l:Nat) c,ds[j]?=some e→e.cells[l]?=some c→∃ v,w.cell? ⟨b,0 * q'+j * q'+l,none⟩=some v∧C X m w v (.d c):=by
       intro j e l c he hc
       obtain ⟨v,hv,hC⟩:=hR.2 j (.d e) l (.d c) (by simp [he]) (by simp [AV.cells,hc])
       exact ⟨v,by rw [cell_of_row w b _ vs el _ hg]; simpa using hv,hC⟩
      have hx:Ext X m w (m.set κ .dead) w:=Ext.kill κ
      refine .ls b (0 * q') cap q' ds (fun j l=>(w.cell? ⟨b,0 * q'+j * q'+l,none⟩).getD undef) (imm_killed hh hb) hn (fun e he=>?_) (fun j e l c he hc=>?_) (fun j e l c he hc=>?_)
      ·have:=hR.1 (.d e) (List.mem_map_of_mem he)
       simpa [AV.cells] using this
      ·obtain ⟨v,e1,hC⟩:=hcell j e l c he hc
       rw [e1]; exact ⟨rfl,hC.2⟩
      ·obtain ⟨v,e1,hC⟩:=hcell j e l c he hc
       rw [e1]; exact (Rd.of_V hC.1).ext hx
     ·obtain ⟨e,h0⟩:=hn0 hm
      subst e
      have:ds=[]:=List.eq_nil_of_length_eq_zero h0
      subst this
      exact ⟨m.set κ .dead,H.set κ none,.ls [],hh.kill κ,⟨Ext.kill κ,List.length_set⟩,.nil,hk⟩
    ·have hhold:Holds X m w q' v es:=by
      rcases hh.blk2 κ _ hB with ⟨b,vs,el,hb,hg,hR⟩ | ⟨hm,q0,hB0⟩
      ·obtain ⟨cap,e,hn,vs2,el2,fz2,hg2,hroom⟩:=hb0 b hb
       rw [hg] at hg2
       simp only [Option.some.injEq,Obj.cells.injEq] at hg2
       obtain ⟨rfl,rfl,rfl⟩:=hg2
       have hle:es.length * q'≤vs.size:=by
        have:=Nat.mul_le_mul_right q' (hlen ▸ hn:es.length≤cap)
        omega
       refine ⟨some ⟨b,0 * q',none⟩,cap,by rw [e,hlen],by omega,hR.1,.inr ⟨b,0 * q',vs.toList.take (es.length * q'),rfl,by simp; omega,fun j u hj=>?_,fun u hu=>?_,fun j e l c he hc=>?_⟩⟩
       ·rw [cell_of_row w b _ vs el _ hg]
        rw [List.getElem?_take] at hj
        split at hj
        ·simpa using hj
        ·cases hj
       ·obtain ⟨p,hp⟩:=List.getElem?_of_mem hu
        rw [List.getElem?_take] at hp
        split at hp
        ·rename_i hpl
         rcases Nat.eq_zero_or_pos q' with h0 | h0
         ·rw [h0] at hpl; omega
         ·have hj:p / q' < es.length:=by rw [Nat.div_lt_iff_lt_mul h0]; exact hpl
          have hmm:p % q' < q':=Nat.mod_lt _ h0
          have ha:=hR.1 _ (List.getElem_mem hj)
          obtain ⟨u2,hu2,hC⟩:=hR.2 (p / q') es[p / q'] (p % q') _ (List.getElem?_eq_getElem hj) (List.getElem?_eq_getElem (by rw [ha]; exact hmm))
          rw [Nat.mul_comm,Nat.div_add_mod] at hu2
          have hp':vs[p]?=some u:=by simpa using hp
          rw [hp'] at hu2
          cases hu2
          exact hC.2
        ·cases hp
       ·obtain ⟨u,hu,hC⟩:=hR.2 j e l c he hc
        refine ⟨u,?_,hC⟩
        have hjl:=(List.getElem?_eq_some_iff.1 he).1
        have hll:l < q':=by rw [← hR.1 e (List.mem_of_getElem? he)]; exact (List.getElem?_eq_some_iff.1 hc).1
        have:j * q'+l < es.length * q':=by
         have h1:=Nat.mul_le_mul_right q' (Nat.succ_le_of_lt hjl)
         rw [Nat.succ_mul] at h1; omega
        rw [List.getElem?_take,if_pos this]
        simpa using hu
      ·obtain ⟨e,h0⟩:=hn0 hm
       have hes:es=[]:=List.eq_nil_of_length_eq_zero (by omega)
       subst hes
       exact ⟨none,0,by rw [e]; rfl,Nat.le_refl _,(fun _ h=>by cases h),.inl ⟨rfl,rfl⟩⟩
     obtain ⟨m',H',ds,hh',⟨hx,hlx⟩,hd,h⟩:=hhold.frzF (frzL_ok n) hh h
     have hk:=setK_none h
     have hx2:Ext X m' w (m'.set κ .dead) w:=Ext.kill κ
     have hd2:Holds X (m'.set κ .dead) w q' v (ds.map .d):=by
      obtain ⟨base,cap,h1,h2,h3,h4⟩:=hd
      refine ⟨base,cap,h1,h2,h3,h4.imp id ?_⟩
      rintro ⟨b,o,news,e1,e2,e3,e4,e5⟩
      exact ⟨b,o,news,e1,e2,e3,e4,fun j e l c he hc=>let ⟨u,a,b⟩:=e5 j e l c he hc; ⟨u,a,b.ext hx2⟩⟩
     refine ⟨m'.set κ .dead,H'.set κ none,.ls ds,hh'.kill κ,⟨hx.trans hx2,by rw [List.length_set]; exact hlx⟩,Rd.of_holds hd2 fun b o n c hv=>?_,hk⟩
     rcases hh.blk2 κ _ hB with ⟨b',vs,el,hb,hg,hR⟩ | ⟨hm,q0,hB0⟩
     ·obtain ⟨cap,e,_⟩:=hb0 b' hb
      have hbb:b'=b:=by
       rw [e] at hv
       simp only [Value.slice.injEq,Option.some.injEq,Addr.mk.injEq] at hv
       exact hv.1.1
      subst hbb
      have hκl:κ < m'.length:=by rw [hlx]; exact hκ
      obtain ⟨e',he'⟩:∃ e',m'[κ]?=some e':=⟨_,List.getElem?_eq_getElem hκl⟩
      rcases hx.same κ e' hκ he' with h1 | h1
      ·subst h1
       refine ⟨(hh.lt κ b' hb).1,(hh.lt κ b' hb).2,fun hmem=>?_⟩
       obtain ⟨j,hj⟩:=get_of_mem hmem
       rw [List.getElem?_set] at hj
       by_cases hej:κ=j
       ·simp [hej] at hj
       ·simp [hej] at hj
        have hjl:j < m.length:=by rw [← hlx]; exact (List.getElem?_eq_some_iff.1 hj).1
        rcases hx.same j _ hjl hj with h2 | h2
        ·cases h2
        ·exact hej (hh.inj _ _ _ hb h2)
      ·rw [hb] at h1
       cases h1
       exact imm_killed hh' he'
     ·obtain ⟨e,h0⟩:=hn0 hm
      rw [e] at hv
      cases hv
   ·exact h.elim
  | pt _ κ off hκ h1 hp h0 =>
   simp only [frz] at h
   cases ho:Nat.beq off 0 with
   | false=>rw [ho] at h; exact h.elim
   | true =>
   rw [ho] at h
   obtain rfl:=Nat.eq_of_beq_eq_true ho
   replace h:=nthK_ok h
   obtain ⟨B,hB,h⟩:=h
   split at h
   ·rename_i cs
    have hk:=setK_none h
    rcases hh.blk2 κ _ hB with ⟨b,vs,el,hb,hg,hR⟩ | ⟨hm,q0,hB0⟩
    ·have:=hp b hb
     subst this
     have hx:Ext X m w (m.set κ .dead) w:=Ext.kill κ
     have hlen:cs.length≤vs.size:=by
      cases hc:cs.length with
      | zero=>omega
      | succ q =>
       obtain ⟨u,e,_⟩:=hR q _ (List.getElem?_eq_getElem (by omega))
       have:=(Array.getElem?_eq_some_iff.1 e).1
       omega
     obtain ⟨m',H',ds,hh',⟨hx',hlx'⟩,hds,hk'⟩:=mapKL_ok (frzL_ok n) cs (H.set κ none) _ (m.set κ .dead) (vs.toList.take cs.length) hk ⟨by simp; omega,fun j v c hv hc=>by
      have hjl:=(List.getElem?_eq_some_iff.1 hc).1
      rw [List.getElem?_take,if_pos hjl] at hv
      obtain ⟨u,e,hC⟩:=hR j c hc
      simp at hv
      rw [hv] at e; cases e
      exact hC.1.ext hx⟩ (hh.kill κ)
     refine ⟨m',H',.ro ds,hh',⟨hx.trans hx',hlx'.trans List.length_set⟩,?_,hk'⟩
     have hdl:ds.length=cs.length:=by have:=hds.1; simp at this; omega
     have hcell:∀ (l:Nat) c,ds[l]?=some c→∃ v,vs[l]?=some v∧v.oneCell'=true∧Rd (Imm X m' w) w v c:=by
      intro l c hc
      have hjl:=(List.getElem?_eq_some_iff.1 hc).1
      obtain ⟨u,e,hC⟩:=hR l _ (List.getElem?_eq_getElem (by omega))
      exact ⟨u,e,hC.2,hds.2 l u c (by rw [List.getElem?_take,if_pos (by omega)]; simpa using e) hc⟩
     refine .ro b 0 ds (fun l=>(vs[l]?).getD undef) (hx'.imm (imm_killed hh hb)).1 (fun l c hc=>?_) (fun l c hc=>?_)
     ·obtain ⟨v,e,h1,_⟩:=hcell l c hc
      rw [cell_of_row w b _ vs el _ hg]
      simp only [Nat.zero_add,e,Option.getD_some]
      exact ⟨trivial,h1⟩
     ·obtain ⟨v,e,_,hr⟩:=hcell l c hc
      simp only [e,Option.getD_some]; exact hr
    ·cases hB0
   ·exact h.elim
  | _=>exact h.elim
theorem frz_ok (n:Nat):FOK X w (frz n):=(frzL_ok n).fok
theorem mapK_ok {n:Nat} (_:FOK X w (frz n)) (l:List AV) (H:Hp) (k:List D→Hp→Prop) (m:Mp) (vs:List Value) (h:mapK (frz n) l H k) (hv:vs.length=l.length∧∀ (j:Nat) v c,vs[j]?=some v→l[j]?=some c→V X m w v c) (hh:HRel X m H w) :
  ∃ m' H' ds,HRel X m' H' w∧Ext X m w m' w∧(vs.length=ds.length∧∀ (j:Nat) v c,vs[j]?=some v→ds[j]?=some c→Rd (Imm X m' w) w v c)∧k ds H':=mapK_ok' (frzL_ok n) l H k m vs h hv hh
theorem Holds.frz {q:Nat} {v:Value} {xs:List AV} {n:Nat} {k:List D→Hp→Prop} (hv:Holds X m w q v xs) (hh:HRel X m H w) (h:mapK (Abs.frz n) xs H k) :
  ∃ m' H' ds,HRel X m' H' w∧Ext X m w m' w∧Holds X m' w q v (ds.map .d)∧k ds H' :=
 let ⟨m',H',ds,a,b,c,e⟩:=hv.frzF (frzL_ok n) hh h
 ⟨m',H',ds,a,b.1,c,e⟩
end Go.Abs
