/- New blocks, literals, addresses of fields and elements: the abstract operations and why they are sound. No condition. -/
import Derived.Test.YthandbiapckgkaaZA4
namespace Go.Abs
variable {P:Program} {X:Nat→Prop} {m m':Mp} {H:Hp} {w w':World}
def pushK:Hp→Blk→(Nat→Hp→Prop)→Prop
 | [],B,k=>k 0 [some B]
 | x::H,B,k=>pushK H B fun n H'=>k (n+1) (x::H')
theorem pushK_ok:∀ {H:Hp} {B:Blk} {k:Nat→Hp→Prop},pushK H B k→k H.length (H++[some B])
 | [],_,_,h=>h
 | _::H,_,_,h=>pushK_ok (H:=H) h
theorem V.newPtr (h:HRel X m H w) {o:Obj}:V X (m++[.blk w.heap.size]) (w.alloc o) (.pointer (some ⟨w.heap.size,0,none⟩)) (.pt H.length 0):=V.new_ptr h
theorem VOK.newVar {el:TypeId} {v:Value} {cs:List AV} {s:Sem Value} {k:AV→Hp→Prop} (hs:s.run P w=.ok (.pointer (some ⟨w.heap.size,0,none⟩)) (w.alloc (.cells v.cells el))) (hh:HRel X m H w)
  (hB:BRel X m w v.cells (.var cs)) (hk:k (.pt H.length 0) (H++[some (.var cs)])):VOK P X m w s k :=
 ⟨_,_,_,_,_,hs,V.newPtr hh,hh.alloc hB,Ext.alloc _ hh,hk⟩
def alP (li:LI) (H:Hp) (k:AV→Hp→Prop):Prop:=bif li.zero.all AV.plain then pushK H (.var li.zero) fun n H'=>k (.pt n 0) H' else False
theorem BRel.zero {vs:Array Value} {zs:List AV} (hz:zs=vs.toList.map ofV) (hp:zs.all AV.plain=true):BRel X m w vs (.var zs):=by
 intro j c hc
 subst hz
 simp only [List.getElem?_map,Option.map_eq_some_iff] at hc
 obtain ⟨v,e,rfl⟩:=hc
 refine ⟨v,by simpa using e,C.ofV ?_⟩
 rw [List.all_eq_true] at hp
 exact hp _ (List.mem_map_of_mem (List.mem_of_getElem? e))
theorem al_ok {t:TypeId} {li:LI} {i:TypeInfo} {u:TypeDesc} {z:Value} (hl:LIs P t li i u z) {k:AV→Hp→Prop} (hh:HRel X m H w) (h:alP li H k) :
  VOK P X m w (Instr.alloc t true (.tuple #[])) k:=by
 unfold alP at h
 cases hz:li.zero.all AV.plain with
 | false=>rw [hz] at h; exact h.elim
 | true =>
  rw [hz] at h
  refine VOK.newVar (v:=z) (el:=t) ?_ hh (BRel.zero hl.zer hz) (pushK_ok h)
  simp [Instr.alloc,zeroValue,typeInfo,hl.info,hl.zero,newVar,newRow]
def boP (x:AV) (H:Hp) (k:AV→Hp→Prop):Prop:=celK x fun cs=>pushK H (.var cs) fun n H'=>k (.pt n 0) H'
theorem bo_ok {t:TypeId} {x:AV} {v:Value} {k:AV→Hp→Prop} (hv:V X m w v x) (hh:HRel X m H w) (h:boP x H k):VOK P X m w (Instr.box t v) k:=by
 obtain ⟨hp,h⟩:=celK_ok h
 obtain ⟨_,hc⟩:=hv.cells hp
 refine VOK.newVar (v:=v) (el:=t) ?_ hh hc (pushK_ok h)
 simp [Instr.box,newVar,newRow]
/- Aggregates out of parts. -/
theorem foldSet (off:Nat):∀ (l:List Value) (q:Nat) (cells:Array Value),off+q+l.length≤cells.size →
  ((l.zipIdx q).foldl (fun (cs:Array Value) (x:Value × Nat)=>cs.setIfInBounds (off+x.2) x.1) cells).size=cells.size ∧
  ∀ p,((l.zipIdx q).foldl (fun (cs:Array Value) (x:Value × Nat)=>cs.setIfInBounds (off+x.2) x.1) cells)[p]?=if off+q≤p∧p < off+q+l.length then l[p - (off+q)]? else cells[p]?
 | [],q,cells,_=>⟨by simp,fun p=>by simp; omega⟩
 | v::l,q,cells,h=>by
  obtain ⟨h1,h2⟩:=foldSet off l (q+1) (cells.setIfInBounds (off+q) v) (by simp at h ⊢; omega)
  simp only [List.zipIdx_cons,List.foldl_cons]
  refine ⟨by rw [h1]; simp,fun p=>?_⟩
  rw [h2 p]
  simp only [List.length_cons] at h ⊢
  by_cases hp:off+q=p
  ·subst hp
   rw [if_neg (by omega),if_pos (by omega)]
   have hlt:off+q < cells.size:=by omega
   simp [hlt]
  ·by_cases h3:off+(q+1)≤p∧p < off+(q+1)+l.length
   ·rw [if_pos h3,if_pos (by omega)]
    have e:p - (off+q)=(p - (off+(q+1)))+1:=by omega
    rw [e]; simp
   ·rw [if_neg h3,if_neg (by omega)]
    simp [hp]
def CR (X:Nat→Prop) (m:Mp) (w:World) (vs:Array Value) (cs:List AV):Prop:=vs.size=cs.length∧∀ (j:Nat) c,cs[j]?=some c→∃ v,vs[j]?=some v∧C X m w v c
theorem CR.over {cells:Array Value} {cs:List AV} (h:CR X m w cells cs) {v:Value} {x:AV} (hv:V X m w v x) (hp:x.plain=true) {off:Nat} (hf:off+x.cells.length≤cs.length) :
  CR X m w (v.cells.zipIdx.foldl (fun cs (c,j)=>cs.setIfInBounds (off+j) c) cells) (cs.take off++x.cells++cs.drop (off+x.cells.length)):=by
 obtain ⟨hs,hc⟩:=hv.cells hp
 have e:(v.cells.zipIdx.foldl (fun cs (c,j)=>cs.setIfInBounds (off+j) c) cells)=((v.cells.toList.zipIdx 0).foldl (fun (cs:Array Value) (x:Value × Nat)=>cs.setIfInBounds (off+x.2) x.1) cells):=by
  rw [← Array.foldl_toList,Array.toList_zipIdx]
 obtain ⟨h1,h2⟩:=foldSet off v.cells.toList 0 cells (by simp [hs,h.1]; omega)
 rw [e]
 refine ⟨by rw [h1,h.1]; simp; omega,fun j c hj=>?_⟩
 rw [h2 j]
 simp only [Nat.add_zero,Array.length_toList]
 have hlen:(cs.take off).length=off:=by simp; omega
 by_cases h3:j < off
 ·rw [if_neg (by omega)]
  rw [List.append_assoc,List.getElem?_append_left (by omega),List.getElem?_take,if_pos h3] at hj
  exact h.2 j c hj
 ·rw [List.append_assoc,List.getElem?_append_right (by omega),hlen] at hj
  by_cases h4:j < off+v.cells.size
  ·rw [if_pos (by omega)]
   rw [List.getElem?_append_left (by omega)] at hj
   simpa using hc (j - off) c hj
  ·rw [if_neg (by omega)]
   rw [List.getElem?_append_right (by omega),List.getElem?_drop] at hj
   have e3:off+x.cells.length+(j - off - x.cells.length)=j:=by omega
   rw [e3] at hj
   exact h.2 j c hj
def buK (flds:List (Nat × Nat)):List AV→List (Nat × AV)→(List AV→Prop)→Prop
 | cs,[],k=>k cs
 | cs,(i,v)::r,k=>nthK flds i fun f=>celK v fun vs=>bif Nat.beq vs.length f.2 then owK cs f.1 vs fun cs'=>buK flds cs' r k else False
theorem bu_ok {flds:List (Nat × Nat)} {place:Nat→Option (Nat × Nat)} (hpl:∀ i f,flds[i]?=some f→place i=some f) (ρ:Operand→Value) (σ:Operand→AV) (hρ:∀ x,V X m w (ρ x) (σ x)) :
  ∀ (parts:List (Nat × Operand)) {cs:List AV} {cells:Array Value} {k:List AV→Prop},
  CR X m w cells cs→buK flds cs (parts.map fun p=>(p.1,σ p.2)) k→∃ cells' cs',Instr.fill place cells (parts.map fun p=>(p.1,ρ p.2))=some cells'∧CR X m w cells' cs'∧k cs':=by
 intro parts
 induction parts with
 | nil =>
  intro cs cells k hc h
  exact ⟨cells,cs,rfl,hc,h⟩
 | cons p r ih =>
  intro cs cells k hc h
  obtain ⟨i,x⟩:=p
  simp only [buK,List.map_cons] at h
  obtain ⟨f,hfi,h⟩:=nthK_ok h
  replace h:=celK_ok h
  obtain ⟨hp,h⟩:=h
  cases hq:Nat.beq (σ x).cells.length f.2 with
  | false=>rw [hq] at h; exact h.elim
  | true =>
   rw [hq] at h
   have hq:=Nat.eq_of_beq_eq_true hq
   obtain ⟨hfit,h⟩:=owK_ok h
   obtain ⟨hsz,_⟩:=(hρ x).cells hp
   obtain ⟨cells',cs',e,hc',hk⟩:=ih (hc.over (hρ x) hp hfit) h
   refine ⟨cells',cs',?_,hc',hk⟩
   simp only [Instr.fill,List.map_cons,hpl _ _ hfi]
   rw [if_neg (by simp [hsz,hq,hc.1]; omega)]
   exact e
def blP (li:LI) (parts:List (Nat × AV)) (k:AV→Prop):Prop :=
 bif li.zero.all AV.plain && !li.flds.isEmpty then buK li.flds li.zero parts fun cs=>mkAg cs k else False
theorem bl_ok {t:TypeId} {li:LI} {i:TypeInfo} {u:TypeDesc} {z:Value} (hl:LIs P t li i u z) {k:AV→Hp→Prop} (hh:HRel X m H w) (ρ:Operand→Value) (σ:Operand→AV) (hρ:∀ x,V X m w (ρ x) (σ x))
  (parts:Array (Nat × Operand)) (h:blP li (parts.toList.map fun p=>(p.1,σ p.2)) fun a=>k a H) :
  VOK P X m w (Instr.build t (parts.map fun (i,x)=>(i,ρ x))) k:=by
 unfold blP at h
 cases hz:li.zero.all AV.plain && !li.flds.isEmpty with
 | false=>rw [hz] at h; exact h.elim
 | true =>
  rw [hz] at h
  simp only [Bool.and_eq_true,Bool.not_eq_true'] at hz
  cases u with
  | struct fs =>
   have hflds:=hl.flds
   simp only [fldsOf] at hflds
   have hmap:∀ (l:List Field),(∀ f ∈ l,(P.info? f.type).isSome=true)→(l.mapM (fun f=>(Prod.mk f.offset <$> sizeOf f.type:Sem (Nat × Nat)))).run P w=.ok (l.map fun f=>(f.offset,P.cellsOf f.type)) w:=by
    intro l
    induction l with
    | nil=>intro _; rfl
    | cons f l ih =>
     intro hf
     have h1:=hf f (by simp)
     obtain ⟨fi,hfi⟩:=Option.isSome_iff_exists.1 h1
     have hsz:(sizeOf f.type).run P w=.ok fi.size w:=by simp [sizeOf,typeInfo,hfi]
     have ih':=ih (fun f hf'=>hf f (by simp [hf']))
     rw [List.mapM_cons]
     simp only [Sem.run_bind,Sem.run_map,hsz,Result.andThen_ok,Sem.run_pure,ih',Program.cellsOf,hfi,Option.map_some,Option.getD_some,List.map_cons]
   have hmapA:(fs.mapM (fun f=>(Prod.mk f.offset <$> sizeOf f.type:Sem (Nat × Nat)))).run P w=.ok li.flds.toArray w:=by
    rw [Array.mapM_eq_mapM_toList]
    simp only [Sem.run_map,hmap fs.toList (fun f hf=>by have:=hl.well; simp only [wellF,List.all_eq_true] at this; exact this f hf),Result.andThen_ok,hflds]
   have hpl:∀ (i:Nat) f,li.flds[i]?=some f→(fun j:Nat=>li.flds[j]?) i=some f:=fun i f h=>h
   have hcr:CR X m w z.cells li.zero:=⟨by rw [hl.zer]; simp,BRel.zero hl.zer hz.1⟩
   obtain ⟨cells',cs',e,hc',hk⟩:=bu_ok hpl ρ σ hρ parts.toList hcr h
   obtain ⟨av,hV,hka⟩:=V.of_mkAg hk hc'.1 hc'.2
   refine ⟨_,w,m,av,H,?_,hV,hh,.refl _ _ _,hka⟩
   simp [Instr.build,zeroValue,typeInfo,hl.info,hl.zero,underlying,hl.und,hmapA,e]
  | _ =>
   have:=hl.flds
   simp [fldsOf] at this
   simp [this] at hz
end Go.Abs
