/- Calls of functions that write to blocks of the caller's: contracts over the blocks that are handed over, and the rule that brings them to any heap. No condition. -/
import Derived.Test.YthandbiapckgkaaZB6
namespace Go.Abs
variable {P:Program} {X X':Nat→Prop} {m m':Mp} {H:Hp} {w w':World}
theorem V.monoX (hI:∀ b,Imm X m w b→Imm X' m w b) {v:Value} {x:AV} (h:V X m w v x):V X' m w v x:=by
 induction h with
 | d v x hr=>exact .d v x (hr.mono fun b hb=>⟨hI b hb,rfl⟩)
 | ag vs cs hl h1 _ ih=>exact .ag vs cs hl h1 ih
 | tp vs cs hl _ ih=>exact .tp vs cs hl ih
 | fn f vs cs hl _ ih=>exact .fn f vs cs hl ih
 | fm f vs cs hl _ ih=>exact .fm f vs cs hl ih
 | sl v κ k off n hκ h1 hh h0=>exact .sl v κ k off n hκ h1 hh h0
 | pe v κ k j off hκ h1 hh h0=>exact .pe v κ k j off hκ h1 hh h0
 | mr v κ hκ h1 hh h0=>exact .mr v κ hκ h1 hh h0
 | pt v κ off hκ h1 hh h0=>exact .pt v κ off hκ h1 hh h0
 | nsl=>exact .nsl
 | yl l=>exact .yl l
 | vw v κ k off n hκ hh h0=>exact .vw v κ k off n hκ hh h0
 | mx b=>exact .mx b
 | cv v=>exact .cv v
 | un v=>exact .un v
theorem BRel.monoX (hI:∀ b,Imm X m w b→Imm X' m w b) {vs:Array Value} {B:Blk} (hb:BRel X m w vs B):BRel X' m w vs B:=by
 cases B with
 | var cs=>exact fun j c hc=>let ⟨v,e,hv⟩:=hb j c hc; ⟨v,e,hv.1.monoX hI,hv.2⟩
 | arr k es=>exact ⟨hb.1,fun j e l c h1 h2=>let ⟨v,e,hv⟩:=hb.2 j e l c h1 h2; ⟨v,e,hv.1.monoX hI,hv.2⟩⟩
 | mp E=>exact hb
theorem renL_inv {ρ:List Nat}:∀ {l:List AV} {j:Nat} {c:AV},(renL ρ l)[j]?=some c→∃ c0,l[j]?=some c0∧c=renV ρ c0
 | [],j,c,h=>by simp [renL] at h
 | x::l,0,c,h=>by simp [renL] at h; exact ⟨x,rfl,h.symm⟩
 | x::l,j+1,c,h=>by
  have h':(renL ρ l)[j]?=some c:=by simpa [renL] using h
  obtain ⟨c0,h1,h2⟩:=renL_inv h'
  exact ⟨c0,by simpa using h1,h2⟩
theorem V.back {ρ:List Nat} {m1:Mp} (hI:∀ b,Imm X' m1 w b→Imm X m w b) (hk:∀ κ,κ < ρ.length→m1[κ]?=m[refK ρ κ]?∧refK ρ κ < m.length) {x:AV} {v:Value} (hok:okV ρ.length x=true) (h:V X' m1 w v x):V X m w v (renV ρ x):=by
 induction h with
 | d v x hr=>exact .d v x (hr.mono fun b hb=>⟨hI b hb,rfl⟩)
 | ag vs cs hl h1 _ ih =>
  refine .ag vs (renL ρ cs) (by rw [renL_length]; exact hl) h1 fun j v c hv hc=>?_
  obtain ⟨c0,h2,rfl⟩:=renL_inv hc
  exact ih j v c0 hv h2 (okL_get hok j c0 h2)
 | tp vs cs hl _ ih =>
  refine .tp vs (renL ρ cs) (by rw [renL_length]; exact hl) fun j v c hv hc=>?_
  obtain ⟨c0,h2,rfl⟩:=renL_inv hc
  exact ih j v c0 hv h2 (okL_get hok j c0 h2)
 | fn f vs cs hl _ ih =>
  refine .fn f vs (renL ρ cs) (by rw [renL_length]; exact hl) fun j v c hv hc=>?_
  obtain ⟨c0,h2,rfl⟩:=renL_inv hc
  exact ih j v c0 hv h2 (okL_get hok j c0 h2)
 | fm f vs cs hl _ ih =>
  refine .fm f vs (renL ρ cs) (by rw [renL_length]; exact hl) fun j v c hv hc=>?_
  obtain ⟨c0,h2,rfl⟩:=renL_inv hc
  exact ih j v c0 hv h2 (okL_get hok j c0 h2)
 | sl v κ k off n hκ h1 hh h0 =>
  obtain ⟨e,hlt⟩:=hk κ (by simpa [okV,Nat.blt_eq] using hok)
  exact .sl v _ k off n hlt h1 (fun b hb=>hh b (e.trans hb)) (fun hb=>h0 (e.trans hb))
 | pe v κ k j off hκ h1 hh h0 =>
  obtain ⟨e,hlt⟩:=hk κ (by simpa [okV,Nat.blt_eq] using hok)
  exact .pe v _ k j off hlt h1 (fun b hb=>hh b (e.trans hb)) (fun hb=>h0 (e.trans hb))
 | mr v κ hκ h1 hh h0 =>
  obtain ⟨e,hlt⟩:=hk κ (by simpa [okV,Nat.blt_eq] using hok)
  exact .mr v _ hlt h1 (fun b hb=>hh b (e.trans hb)) (fun hb=>h0 (e.trans hb))
 | pt v κ off hκ h1 hh h0 =>
  obtain ⟨e,hlt⟩:=hk κ (by simpa [okV,Nat.blt_eq] using hok)
  exact .pt v _ off hlt h1 (fun b hb=>hh b (e.trans hb)) (fun hb=>h0 (e.trans hb))
 | nsl=>exact .nsl
 | yl l=>exact .yl l
 | vw v κ k off n hκ hh h0=>simp [okV] at hok
 | mx b=>exact .mx b
 | cv v=>exact .cv v
 | un v=>exact .un v
theorem BRel.back {ρ:List Nat} {m1:Mp} (hI:∀ b,Imm X' m1 w b→Imm X m w b) (hk:∀ κ,κ < ρ.length→m1[κ]?=m[refK ρ κ]?∧refK ρ κ < m.length) {vs:Array Value} {B:Blk} (hok:okB ρ.length B=true) (h:BRel X' m1 w vs B):BRel X m w vs (renB ρ B):=by
 cases B with
 | var cs =>
  intro j c hc
  obtain ⟨c0,h2,rfl⟩:=renL_inv hc
  obtain ⟨v,e,hC⟩:=h j c0 h2
  exact ⟨v,e,V.back hI hk (okL_get hok j c0 h2) hC.1,hC.2⟩
 | arr k es =>
  refine ⟨fun e he=>?_,fun j e l c he hc=>?_⟩
  ·obtain ⟨j,hj⟩:=List.getElem?_of_mem he
   obtain ⟨e0,h2,rfl⟩:=renL_inv hj
   rw [renV_cells,renL_length]
   exact h.1 e0 (List.mem_of_getElem? h2)
  ·obtain ⟨e0,h2,rfl⟩:=renL_inv he
   rw [renV_cells] at hc
   obtain ⟨c0,h3,rfl⟩:=renL_inv hc
   obtain ⟨v,e1,hC⟩:=h.2 j e0 l c0 h2 h3
   exact ⟨v,e1,V.back hI hk (okL_get (okV_cells (okL_get hok j e0 h2)) l c0 h3) hC.1,hC.2⟩
 | mp E=>exact h
def frH (n:Nat) (ρ:List Nat) (H:Hp):List Nat→List Blk→Prop
 | [],[]=>True
 | κ::ks,B::r=>(okB n B=true∧nthK H κ fun B'=>B'=some (renB ρ B))∧frH n ρ H ks r
 | _,_=>False
theorem frH_get {n:Nat} {ρ:List Nat} {H:Hp}:∀ {ks:List Nat} {Bs:List Blk},frH n ρ H ks Bs→ks.length=Bs.length∧∀ (i:Nat) κ,ks[i]?=some κ→∃ B,Bs[i]?=some B∧okB n B=true∧H[κ]?=some (some (renB ρ B))
 | [],[],_=>⟨rfl,fun i κ h=>by simp at h⟩
 | κ::ks,B::r,h=>by
  obtain ⟨⟨h1,h2⟩,h3⟩:=h
  obtain ⟨B',hB',e⟩:=nthK_ok h2
  subst e
  obtain ⟨a,b⟩:=frH_get h3
  refine ⟨by simp [a],fun i κ' hκ=>?_⟩
  cases i with
  | zero=>simp at hκ; subst hκ; exact ⟨B,rfl,h1,hB'⟩
  | succ i=>simpa using b i κ' (by simpa using hκ)
 | [],_::_,h=>by cases h
 | _::_,[],h=>by cases h
def upH (ρ:List Nat):List Nat→List Blk→Hp→Hp
 | κ::ks,B::r,H=>upH ρ ks r (H.set κ (some (renB ρ B)))
 | _,_,H=>H
theorem upH_length {ρ:List Nat}:∀ {ks:List Nat} {Bs:List Blk} {H:Hp},(upH ρ ks Bs H).length=H.length
 | [],_,_=>by simp [upH]
 | _::_,[],_=>by simp [upH]
 | κ::ks,B::r,H=>by simp [upH,upH_length (ks:=ks)]
theorem upH_other {ρ:List Nat}:∀ {ks:List Nat} {Bs:List Blk} {H:Hp} {κ:Nat},κ ∉ ks→(upH ρ ks Bs H)[κ]?=H[κ]?
 | [],_,_,_,_=>by simp [upH]
 | _::_,[],_,_,_=>by simp [upH]
 | κ'::ks,B::r,H,κ,h=>by
  rw [upH,upH_other (fun hm=>h (List.mem_cons_of_mem _ hm)),List.getElem?_set_ne (fun e=>h (by simp [e]))]
theorem upH_get {ρ:List Nat}:∀ {ks:List Nat} {Bs:List Blk} {H:Hp} {i κ:Nat},ks.Nodup→ks.length=Bs.length→(∀ κ,κ ∈ ks→κ < H.length)→ks[i]?=some κ→∃ B,Bs[i]?=some B∧(upH ρ ks Bs H)[κ]?=some (some (renB ρ B))
 | [],_,_,i,κ,_,_,_,h=>by simp at h
 | _::_,[],_,i,κ,_,hl,_,h=>by simp at hl
 | κ'::ks,B::r,H,0,κ,hn,hl,hb,h=>by
  simp at h; subst h
  refine ⟨B,rfl,?_⟩
  rw [upH,upH_other (List.nodup_cons.1 hn).1,List.getElem?_set_self (hb _ (by simp))]
 | κ'::ks,B::r,H,i+1,κ,hn,hl,hb,h=>by
  rw [upH]
  have:=upH_get (ρ:=ρ) (ks:=ks) (Bs:=r) (H:=H.set κ' (some (renB ρ B))) (i:=i) (κ:=κ) (List.nodup_cons.1 hn).2 (by simpa using hl) (fun q hq=>by rw [List.length_set]; exact hb q (List.mem_cons_of_mem _ hq)) (by simpa using h)
  simpa using this
/- In words that reckon: an array's elements are data and are not renamed. -/
def okBP (n:Nat):Blk→Prop
 | .var cs=>okL n cs=true
 | .arr _ es=>∃ ds:List D,es=ds.map .d
 | .mp _=>True
def okBs (n:Nat):List Blk→Prop
 | []=>True
 | B::r=>okBP n B∧okBs n r
def renM (ρ:List Nat):Blk→Blk
 | .var cs=>.var (renL ρ cs)
 | .arr k es=>.arr k es
 | .mp E=>.mp E
def frM (n:Nat) (ρ:List Nat) (H:Hp):List Nat→List Blk→Prop
 | [],[]=>True
 | κ::ks,B::r=>(okBP n B∧nthK H κ fun B'=>B'=some (renM ρ B))∧frM n ρ H ks r
 | _,_=>False
def upM (ρ:List Nat):List Nat→List Blk→Hp→Hp
 | κ::ks,B::r,H=>upM ρ ks r (H.set κ (some (renM ρ B)))
 | _,_,H=>H
theorem okL_map (n:Nat):∀ l:List D,okL n (l.map AV.d)=true
 | []=>rfl
 | a::l=>by simp [okL,okV,okL_map n l]
theorem renL_map (ρ:List Nat):∀ l:List D,renL ρ (l.map AV.d)=l.map AV.d
 | []=>rfl
 | a::l=>by simp only [List.map_cons,renL,renV,renL_map ρ l]
theorem okBP_ok {n:Nat} {B:Blk} (h:okBP n B):okB n B=true:=by
 cases B with
 | var cs=>exact h
 | arr k es=>obtain ⟨ds,rfl⟩:=h; exact okL_map n ds
 | mp E=>rfl
theorem renM_eq {n:Nat} {ρ:List Nat} {B:Blk} (h:okBP n B):renM ρ B=renB ρ B:=by
 cases B with
 | var cs=>rfl
 | arr k es=>obtain ⟨ds,rfl⟩:=h; simp only [renM,renB,renL_map]
 | mp E=>rfl
theorem okBs_all {n:Nat}:∀ {Bs:List Blk},okBs n Bs→Bs.all (okB n)=true
 | [],_=>rfl
 | B::r,h=>by simp [okBP_ok h.1]; simpa using okBs_all h.2
theorem frM_fr {n:Nat} {ρ:List Nat} {H:Hp}:∀ {ks:List Nat} {Bs:List Blk},frM n ρ H ks Bs→frH n ρ H ks Bs
 | [],[],_=>trivial
 | κ::ks,B::r,h=>by
  obtain ⟨⟨h1,h2⟩,h3⟩:=h
  obtain ⟨B',g1,g2⟩:=nthK_ok h2
  exact ⟨⟨okBP_ok h1,nthK_mk g1 (by rw [g2,renM_eq h1])⟩,frM_fr h3⟩
 | [],_::_,h=>by cases h
 | _::_,[],h=>by cases h
theorem upM_eq {n:Nat} {ρ:List Nat}:∀ {ks:List Nat} {Bs:List Blk} {H:Hp},okBs n Bs→upM ρ ks Bs H=upH ρ ks Bs H
 | [],_,_,_=>by simp [upM,upH]
 | _::_,[],_,_=>by simp [upM,upH]
 | κ::ks,B::r,H,h=>by rw [upM,upH,renM_eq h.1,upM_eq h.2]
@[irreducible] def MC (P:Program) (f:FuncId) (args:List AV) (Bs:List Blk) (R:List D→List Blk→Prop):Prop :=
 ECall P f args (Bs.map some) fun r H'=>∃ rs Bs',r=retD rs∧Bs'.length=Bs.length∧H'.take Bs.length=Bs'.map some∧okBs Bs.length Bs'∧R rs Bs'
theorem refK_lt {ρ:List Nat} {κ:Nat} (h:κ < ρ.length):ρ[κ]?=some (refK ρ κ):=by
 unfold refK; simp [List.getD,h]
theorem retD_ok {n:Nat} {rs:List D}:okV n (retD rs)=true:=by
 have key:∀ l:List D,okL n (l.map AV.d)=true:=by
  intro l
  induction l with
  | nil=>rfl
  | cons a l ih=>simp [okL,okV,ih]
 match rs with
 | []=>rfl
 | [d]=>rfl
 | d::d'::ds=>exact key _
theorem retD_ren {ρ:List Nat} {rs:List D}:renV ρ (retD rs)=retD rs:=by
 have key:∀ l:List D,renL ρ (l.map AV.d)=l.map AV.d:=by
  intro l
  induction l with
  | nil=>rfl
  | cons a l ih=>simp only [List.map_cons,renL,renV,ih]
 match rs with
 | []=>rfl
 | [d]=>rfl
 | d::d'::ds =>
  show AV.tp (renL ρ ((d::d'::ds).map AV.d))=_
  rw [key]; rfl
theorem MC.ecall {f:FuncId} {args:List AV} {Bs:List Blk} {R:List D→List Blk→Prop} (h:MC P f args Bs R) {args':List AV} (ρ:List Nat) (hn:ρ.Nodup) (ha:args'=renL ρ args) (hok:okL ρ.length args=true) (hH0:frM ρ.length ρ H ρ Bs) {Q:AV→Hp→Prop} (hq0:∀ rs Bs',R rs Bs'→Q (retD rs) (upM ρ ρ Bs' H)):ECall P f args' H Q:=by
 subst ha
 have hH:=frM_fr hH0
 unfold MC at h
 unfold ECall at h ⊢
 refine ⟨h.1,fun X m vals w hs hv hh=>?_⟩
 obtain ⟨hlen,hblk⟩:=frH_get hH
 have hget:∀ i,i < ρ.length→∃ B,Bs[i]?=some B∧okB ρ.length B=true∧H[refK ρ i]?=some (some (renB ρ B)):=fun i hi=>hblk i _ (refK_lt hi)
 have hlt:∀ i,i < ρ.length→refK ρ i < m.length:=fun i hi=>by
  obtain ⟨B,_,_,h3⟩:=hget i hi
  have:=(List.getElem?_eq_some_iff.1 h3).1
  rw [hh.len]; exact this
 have hpk:∀ i,i < ρ.length→(pickM ρ m)[i]?=m[refK ρ i]?:=fun i hi=>by
  have h1:=hlt i hi
  simp only [pickM,List.getElem?_map,refK_lt hi,Option.map_some,List.getElem?_eq_getElem h1,Option.getD_some]
 have hmem:∀ b,ME.blk b ∈ pickM ρ m→ME.blk b ∈ m:=fun b hb=>by
  obtain ⟨κ,hκ⟩:=get_of_mem hb
  rcases pickM_get hκ with h1 | ⟨_,h1⟩
  ·cases h1
  ·exact mem_of_get h1
 let X':Nat→Prop:=fun b=>X b∨(ME.blk b ∈ m∧ME.blk b ∉ pickM ρ m)
 have hI:∀ b,Imm X m w b→Imm X' m w b:=fun b hb=>⟨hb.1,fun hx=>hx.elim hb.2.1 (fun hx=>hb.2.2 hx.1),hb.2.2⟩
 have hh0:HRel X' (pickM ρ m) (Bs.map some) w:=by
  refine ⟨by simp [pickM,hlen],fun κ B hB=>?_,fun κ κ' b h1 h2=>?_,fun κ b h1=>?_,fun b hb=>?_,⟨fun g cs hg=>let ⟨h1,h2,h3⟩:=hh.tab.get g cs hg; ⟨h1,fun hx=>hx.elim h2 (fun hx=>h3 hx.1),fun hm=>h3 (hmem g hm)⟩⟩⟩
  ·have hκ:κ < Bs.length:=by have:=(List.getElem?_eq_some_iff.1 hB).1; simpa using this
   have hκ':κ < ρ.length:=by omega
   obtain ⟨B',e1,e2,e3⟩:=hget κ hκ'
   have:B'=B:=by
    rw [List.getElem?_map,e1] at hB
    simpa using hB
   subst this
   rcases hh.blk _ _ e3 with ⟨b,vs,el,g1,g2,g3⟩ | ⟨g1,q,g2⟩ | ⟨E,b,es,ck,k1,k2,k3,k4⟩
   rotate_left
   rotate_left
   ·refine .inr (.inr ⟨E,b,es,ck,?_,by rw [hpk κ hκ']; exact k2,k3,k4.mono fun b hb=>⟨(hI b hb).pick,rfl⟩⟩)
    cases B' <;> simp [renB] at k1
    rw [k1]
   ·exact .inl ⟨b,vs,el,by rw [hpk κ hκ']; exact g1,g2,BRel.ren e2 (g3.monoX hI)⟩
   ·refine .inr (.inl ⟨by rw [hpk κ hκ']; exact g1,?_⟩)
    cases B' with
    | var cs=>simp [renB] at g2
    | mp E=>simp [renB] at g2
    | arr k es =>
     simp only [renB,Blk.arr.injEq] at g2
     cases es with
     | nil=>exact ⟨k,rfl⟩
     | cons e es=>simp [renL] at g2
  ·rcases pickM_get h1 with h3 | ⟨l1,h3⟩
   ·cases h3
   ·rcases pickM_get h2 with h4 | ⟨l2,h4⟩
    ·cases h4
    ·have hinj:=hh.inj _ _ _ h3 h4
     simp only [refK,List.getD,List.getElem?_eq_getElem l1,List.getElem?_eq_getElem l2,Option.getD_some] at hinj
     exact (List.getElem_inj hn).1 hinj
  ·have hm1:=mem_of_get h1
   rcases pickM_get h1 with h3 | ⟨_,h3⟩
   ·cases h3
   ·obtain ⟨l1,l2⟩:=hh.lt _ _ h3
    exact ⟨l1,fun hx=>hx.elim l2 (fun hx=>hx.2 hm1)⟩
  ·rcases hb with hb | ⟨hb,_⟩
   ·exact hh.old b hb
   ·obtain ⟨κ,hκ⟩:=get_of_mem hb
    exact (hh.lt κ b hκ).1
 refine (h.2 X' (pickM ρ m) vals w (by rw [hs,renL_length]) (fun j v c hvj hc=>V.ren (okL_get hok j c hc) ((hv j v _ hvj (renL_get ρ args j c hc)).monoX hI)) hh0).mono ?_
 rintro e w' ⟨v,m1,r,H1,rfl,hV,hh1,hx1,rs,Bs',rfl,hl',htake,hokBs,hR⟩
 have hq:Q (retD rs) (upH ρ ρ Bs' H):=by rw [← upM_eq hokBs]; exact hq0 rs Bs' hR
 have hokB:=okBs_all hokBs
 have hlive:∀ i,i < ρ.length→∃ B,Bs'[i]?=some B∧okB ρ.length B=true∧H1[i]?=some (some B):=fun i hi=>by
  have hi':i < Bs'.length:=by omega
  refine ⟨Bs'[i],by simp [hi'],?_,?_⟩
  ·rw [hlen]; exact List.all_eq_true.1 hokB _ (List.getElem_mem hi')
  ·have h2:=congrArg (·[i]?) htake
   simp only [List.getElem?_map,List.getElem?_eq_getElem hi',Option.map_some] at h2
   rw [List.getElem?_take,if_pos (by omega)] at h2
   exact h2
 have hsame:∀ i,i < ρ.length→m1[i]?=m[refK ρ i]?:=fun i hi=>by
  obtain ⟨B,_,_,h3⟩:=hlive i hi
  have:∀ e,m1[i]?=some e→e≠.dead→m1[i]?=m[refK ρ i]?:=fun e he hd=>by
   rcases hx1.same i e (by simp [pickM]; omega) he with h4 | h4
   ·exact absurd h4 hd
   ·rw [he,← h4,hpk i hi]
  rcases hh1.blk i B h3 with ⟨b,vs,el,g1,_,_⟩ | ⟨g1,_⟩ | ⟨_,b,_,_,_,g1,_⟩
  ·exact this _ g1 (by simp)
  ·exact this _ g1 (by simp)
  ·exact this _ g1 (by simp)
 have hk:∀ κ,κ < ρ.length→m1[κ]?=m[refK ρ κ]?∧refK ρ κ < m.length:=fun κ hκ=>⟨hsame κ hκ,hlt κ hκ⟩
 have hI1:∀ b,Imm X' m1 w' b→Imm X m w' b:=fun b hb=>by
  refine ⟨hb.1,fun hx=>hb.2.1 (.inl hx),fun hm=>?_⟩
  by_cases hp:ME.blk b ∈ pickM ρ m
  ·obtain ⟨κ,hκ⟩:=get_of_mem hp
   rcases pickM_get hκ with h3 | ⟨l1,h3⟩
   ·cases h3
   ·refine hb.2.2 (mem_of_get (κ:=κ) ?_)
    rw [hsame κ l1]; exact h3
  ·exact hb.2.1 (.inr ⟨hm,hp⟩)
 have hxm:Ext X m w m w':=by
  refine ⟨fun b hb hm=>⟨(hx1.keep b hb (fun hp=>hm (hmem b hp))).1,hm⟩,hx1.size,Nat.le_refl _,fun κ e hκ he=>.inr he,hx1.room,hx1.out⟩
 refine ⟨v,m,retD rs,upH ρ ρ Bs' H,rfl,?_,?_,hxm,hq⟩
 ·have:=V.back (ρ:=ρ) hI1 hk (retD_ok (rs:=rs)) hV
  rwa [retD_ren] at this
 ·refine ⟨by rw [upH_length]; exact hh.len,fun κ B hB=>?_,hh.inj,fun κ b hκ=>?_,fun b hb=>Nat.lt_of_lt_of_le (hh.old b hb) hx1.size,hh.tab.ext hxm⟩
  ·by_cases hmem':κ ∈ ρ
   ·obtain ⟨i,hi⟩:=List.getElem?_of_mem hmem'
    have hil:=(List.getElem?_eq_some_iff.1 hi).1
    obtain ⟨B0,g1,g2⟩:=upH_get (ρ:=ρ) (ks:=ρ) (Bs:=Bs') (H:=H) hn (by omega) (fun q hq=>by
     obtain ⟨j,hj⟩:=List.getElem?_of_mem hq
     have hjl:=(List.getElem?_eq_some_iff.1 hj).1
     have e:=refK_lt hjl
     rw [hj] at e; cases e
     rw [← hh.len]; exact hlt j hjl) hi
    rw [g2] at hB
    simp only [Option.some.injEq] at hB
    subst hB
    have eκ:refK ρ i=κ:=by have e:=refK_lt hil; rw [hi] at e; cases e; rfl
    obtain ⟨B1,k1,k2,k3⟩:=hlive i hil
    rw [g1] at k1; cases k1
    rcases hh1.blk i B0 k3 with ⟨b,vs,el,q1,q2,q3⟩ | ⟨q1,q,q2⟩ | ⟨E,b,es,ck,q0,q1,q2,q3⟩
    ·exact .inl ⟨b,vs,el,by rw [← eκ,← hsame i hil]; exact q1,q2,BRel.back hI1 hk k2 q3⟩
    ·refine .inr (.inl ⟨by rw [← eκ,← hsame i hil]; exact q1,?_⟩)
     subst q2
     exact ⟨q,rfl⟩
    ·subst q0
     exact .inr (.inr ⟨E,b,es,ck,rfl,by rw [← eκ,← hsame i hil]; exact q1,q2,q3.mono fun b hb=>⟨hI1 b hb,rfl⟩⟩)
   ·rw [upH_other hmem'] at hB
    rcases hh.blk κ B hB with ⟨b,vs,el,g1,g2,g3⟩ | g1 | ⟨E,b,es,ck,q0,g1,q2,q3⟩
    rotate_left
    rotate_left
    ·refine .inr (.inr ⟨E,b,es,ck,q0,g1,?_,q3.ext hxm⟩)
     rw [(hx1.keep b (hh.lt κ b g1).1 (fun hp=>?_)).1]
     ·exact q2
     ·obtain ⟨κ',hκ'⟩:=get_of_mem hp
      rcases pickM_get hκ' with h3 | ⟨l1,h3⟩
      ·cases h3
      ·have:=hh.inj _ _ _ g1 h3
       subst this
       exact hmem' (List.mem_of_getElem? (refK_lt l1))
    ·refine .inl ⟨b,vs,el,g1,?_,g3.ext hxm⟩
     rw [(hx1.keep b (hh.lt κ b g1).1 (fun hp=>?_)).1]
     ·exact g2
     ·obtain ⟨κ',hκ'⟩:=get_of_mem hp
      rcases pickM_get hκ' with h3 | ⟨l1,h3⟩
      ·cases h3
      ·have:=hh.inj _ _ _ g1 h3
       subst this
       exact hmem' (List.mem_of_getElem? (refK_lt l1))
    ·exact .inr (.inl g1)
  ·obtain ⟨l1,l2⟩:=hh.lt κ b hκ
   exact ⟨Nat.lt_of_lt_of_le l1 hx1.size,l2⟩
theorem MC.mono {f:FuncId} {args:List AV} {Bs:List Blk} {R R':List D→List Blk→Prop} (h:MC P f args Bs R) (hr:∀ rs Bs',R rs Bs'→R' rs Bs'):MC P f args Bs R':=by
 unfold MC ECall at *
 refine ⟨h.1,fun X m vals w hs hv hh=>(h.2 X m vals w hs hv hh).mono ?_⟩
 rintro e w' ⟨v,m',r,H',a,b,c,d,rs,Bs',e1,e2,e3,e4,e5⟩
 exact ⟨v,m',r,H',a,b,c,d,rs,Bs',e1,e2,e3,e4,hr _ _ e5⟩
def EndM (L:Lay) (fn:Func) (n:Nat) (R:List D→List Blk→Prop):Post:=fun e T H=>match e with
 | .normal | .ret=>resK L T H fn.results.toList fun vs=>mapK (frz 8) vs H fun ds H'=>∃ Bs',Bs'.length=n∧H'.take n=Bs'.map some∧okBs n Bs'∧R ds Bs'
 | _=>False
theorem MC.of_tr {cx : Cx} (hL : LayOK P cx.L) {f : FuncId} {fn : Func} {c : Code} (hf : P.funcs[f]? = some fn) (hb : fn.body = some c) (hn : (fn.name == "runtime.NumGoroutine") = false) {args : List AV} {Bs : List Blk} {R : List D → List Blk → Prop}
  (hN:cx.N=fn.ntmps) (hro:cx.ro=none) (hF:cx.F=Bs.length) (hlen:args.length≤fn.ntmps) (h:Tr P cx c (argT 0 args) (Bs.map some) (EndM cx.L fn Bs.length R)):MC P f args Bs R:=by
 unfold MC ECall
 refine ⟨⟨fn,c,hf,hb,hn⟩,fun X m vals w hs hv hh=>?_⟩
 have h':Tr P cx c (argT 0 args) (Bs.map some) (EndP cx.L fn fun r H'=>∃ avs,r=retV avs∧mapK (frz 8) avs H' fun ds H2=>∃ Bs',Bs'.length=Bs.length∧H2.take Bs.length=Bs'.map some∧okBs Bs.length Bs'∧R ds Bs'):=by
  refine h.mono ?_
  rintro e T H hq
  cases e with
  | normal=>exact resK_mono _ (fun vs h=>⟨vs,rfl,h⟩) hq
  | ret=>exact resK_mono _ (fun vs h=>⟨vs,rfl,h⟩) hq
  | _=>exact hq
 refine (calls_of_tr hL hf hb hN hro (by simpa using hF) hlen h' hs hv hh).mono ?_
 rintro e w' ⟨v,m',r,H',rfl,hV,hh',hx,avs,rfl,hk⟩
 obtain ⟨m2,H2,ds2,h1,h2,h3,Bs',h4,h5,h6,h7⟩:=retV_retD hV hk hh'
 exact ⟨v,m2,_,H2,rfl,h3,h1,hx.trans h2,ds2,Bs',rfl,h4,h5,h6,h7⟩
theorem Tr.unW [Inhabited DSt] {cx:Cx} {c:Code} {T:Tp} {H:Hp} {Q:Post} (h:Tr P cx c T H fun e T H=>∃ T' H',Wk cx.F T H T' H'∧Q e T' H'):Tr P cx c T H Q:=by
 unfold Tr at h ⊢
 intro X mb wb m a w hF hr
 refine wpX_mono (h X mb wb m a w hF hr) ?_
 rintro e a w ⟨m,T,H,hr,T',H',hw,hq⟩
 unfold Wk at hw
 obtain ⟨m',hr',_⟩:=hw X mb wb cx.N m a w hF hr
 exact ⟨m',T',H',hr',hq⟩
theorem endW [Inhabited DSt] {F:Nat} {T T':Tp} {H H':Hp} {p:Tp→Hp→Prop} (hw:Wk F T H T' H') (h:p T' H'):∃ T' H',Wk F T H T' H'∧p T' H':=⟨T',H',hw,h⟩
theorem endH [Inhabited DSt] {F:Nat} {T:Tp} {H:Hp} {p:Tp→Hp→Prop} (h:p T H):∃ T' H',Wk F T H T' H'∧p T' H':=⟨T,H,by unfold Wk; exact fun X mb wb N m a w _ hr=>⟨m,hr,fun b hb=>hb⟩,h⟩
def lenIs {α:Type} (a b:List α):Option Unit:=if a.length=b.length then some () else none
theorem lenIs_eq {α:Type} {a b:List α} {u:Unit} (h:lenIs a b=some u):a.length=b.length:=by
 unfold lenIs at h
 split at h
 ·assumption
 ·cases h
theorem endB {n:Nat} {H:Hp} {rs rs0:List D} {Bs0:List Blk} (h1:rs=rs0) (h2:Bs0.length=n) (h3:H.take n=Bs0.map some) (h4:okBs n Bs0):∃ Bs',Bs'.length=n∧H.take n=Bs'.map some∧okBs n Bs'∧(rs=rs0∧Bs'=Bs0):=⟨Bs0,h2,h3,h4,h1,rfl⟩
theorem rr {α β:Type} {a:α} {b:β}:a=a∧b=b:=⟨rfl,rfl⟩
abbrev dI (n:Int):AV:=.d (.i .i64 n)
theorem bl:(∀ (α:Type) (a b:α),cond true a b=a)∧(∀ (α:Type) (a b:α),cond false a b=b)∧(∀ b,(true || b)=true)∧(∀ b,(b || true)=true)∧(∀ b,(false || b)=b)∧(∀ b,(b || false)=b)∧(∀ b,(true && b)=b)∧(∀ b,(b && true)=b)∧(∀ b,(false && b)=false)∧(∀ b,(b && false)=false)∧(!true)=false∧(!false)=true:=by
 refine ⟨fun _ _ _=>rfl,fun _ _ _=>rfl,?_,?_,?_,?_,?_,?_,?_,?_,rfl,rfl⟩ <;> intro b <;> cases b <;> rfl
end Go.Abs
