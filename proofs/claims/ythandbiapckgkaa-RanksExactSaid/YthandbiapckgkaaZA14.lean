/- Weakening of abstract states, loops, calls, functions. No condition. -/
import Derived.Test.YthandbiapckgkaaZA13
import Derived.LoopNIn
namespace Go.Abs
variable {P:Program} {X:Nat→Prop} {m m':Mp} {H:Hp} {w w':World}
/- References renamed. -/
def refK (ρ:List Nat) (κ:Nat):Nat:=ρ.getD κ κ
mutual
def renV (ρ:List Nat):AV→AV
 | .d x=>.d x
 | .ag cs=>.ag (renL ρ cs)
 | .tp cs=>.tp (renL ρ cs)
 | .fn f cs=>.fn f (renL ρ cs)
 | .fm f cs=>.fm f (renL ρ cs)
 | .sl κ k off n=>.sl (refK ρ κ) k off n
 | .mr κ=>.mr (refK ρ κ)
 | .pt κ off=>.pt (refK ρ κ) off
 | .pe κ k j off=>.pe (refK ρ κ) k j off
 | .nsl=>.nsl
 | .yl l=>.yl l
 | .mx b=>.mx b
 | .cv v=>.cv v
 | .vw κ k off n=>.vw κ k off n
 | .un=>.un
def renL (ρ:List Nat):List AV→List AV
 | []=>[]
 | x::l=>renV ρ x::renL ρ l
end
mutual
def okV (n:Nat):AV→Bool
 | .ag cs | .tp cs | .fn _ cs | .fm _ cs=>okL n cs
 | .sl κ _ _ _ | .mr κ | .pt κ _ | .pe κ _ _ _=>Nat.blt κ n
 | .d _ | .nsl | .yl _ | .mx _ | .cv _ | .un=>true
 | .vw _ _ _ _=>false
def okL (n:Nat):List AV→Bool
 | []=>true
 | x::l=>okV n x && okL n l
end
theorem renL_length (ρ:List Nat):∀ l:List AV,(renL ρ l).length=l.length
 | []=>rfl
 | x::l=>by simp [renL,renL_length ρ l]
theorem renL_get (ρ:List Nat):∀ (l:List AV) (j:Nat) c,l[j]?=some c→(renL ρ l)[j]?=some (renV ρ c)
 | [],j,c,h=>by simp at h
 | x::l,0,c,h=>by simp at h; subst h; rfl
 | x::l,j+1,c,h=>by simpa [renL] using renL_get ρ l j c (by simpa using h)
theorem okL_get {n:Nat}:∀ {l:List AV},okL n l=true→∀ (j:Nat) c,l[j]?=some c→okV n c=true
 | [],_,j,c,h=>by simp at h
 | x::l,h,0,c,hc=>by simp [okL] at h; simp at hc; subst hc; exact h.1
 | x::l,h,j+1,c,hc=>by simp [okL] at h; exact okL_get (l:=l) h.2 j c (by simpa using hc)
def pickM (ρ:List Nat) (m:Mp):Mp:=ρ.map fun κ=>(m[κ]?).getD .dead
theorem pickM_get {ρ:List Nat} {m:Mp} {κ:Nat} {e:ME} (h:(pickM ρ m)[κ]?=some e):e=.dead∨(κ < ρ.length∧m[refK ρ κ]?=some e):=by
 simp only [pickM,List.getElem?_map,Option.map_eq_some_iff] at h
 obtain ⟨κ',hκ,rfl⟩:=h
 have hlt:=(List.getElem?_eq_some_iff.1 hκ).1
 cases hq:m[κ']? with
 | none=>exact .inl rfl
 | some e =>
  refine .inr ⟨hlt,?_⟩
  simp [refK,List.getD,hκ,hq]
theorem Imm.pick {ρ:List Nat} {b:Nat} (h:Imm X m w b):Imm X (pickM ρ m) w b:=by
 refine ⟨h.1,h.2.1,fun hmem=>?_⟩
 obtain ⟨κ,hκ⟩:=get_of_mem hmem
 rcases pickM_get hκ with h1 | ⟨_,h1⟩
 ·cases h1
 ·exact h.2.2 (mem_of_get h1)
theorem V.ren {ρ:List Nat}:∀ {x:AV} {v:Value},okV ρ.length x=true→V X m w v (renV ρ x)→V X (pickM ρ m) w v x:=by
 intro x v hok h
 generalize hy:renV ρ x=y at h
 induction h generalizing x with
 | d v y hr =>
  cases x <;> simp [renV] at hy
  subst hy
  exact .d _ _ (hr.mono fun b hb=>⟨hb.pick,rfl⟩)
 | ag vs cs hl h1 hc ih =>
  cases x with
  | ag xs =>
   simp only [renV,AV.ag.injEq] at hy
   subst hy
   refine .ag vs xs (by rw [hl,renL_length]) h1 fun j v c hv hcx=>ih j v _ hv (renL_get ρ xs j c hcx) (okL_get hok j c hcx) rfl
  | _=>simp [renV] at hy
 | tp vs cs hl hc ih =>
  cases x with
  | tp xs =>
   simp only [renV,AV.tp.injEq] at hy
   subst hy
   refine .tp vs xs (by rw [hl,renL_length]) fun j v c hv hcx=>ih j v _ hv (renL_get ρ xs j c hcx) (okL_get hok j c hcx) rfl
  | _=>simp [renV] at hy
 | fn f vs cs hl hc ih =>
  cases x with
  | fn g xs =>
   simp only [renV,AV.fn.injEq] at hy
   obtain ⟨rfl,rfl⟩:=hy
   refine .fn g vs xs (by rw [hl,renL_length]) fun j v c hv hcx=>ih j v _ hv (renL_get ρ xs j c hcx) (okL_get hok j c hcx) rfl
  | _=>simp [renV] at hy
 | fm f vs cs hl hc ih =>
  cases x with
  | fm g xs =>
   simp only [renV,AV.fm.injEq] at hy
   obtain ⟨rfl,rfl⟩:=hy
   refine .fm g vs xs (by rw [hl,renL_length]) fun j v c hv hcx=>ih j v _ hv (renL_get ρ xs j c hcx) (okL_get hok j c hcx) rfl
  | _=>simp [renV] at hy
 | sl v κ k off n hκ h1 hb h0 =>
  cases x with
  | sl κ' k' off' n' =>
   simp only [renV,AV.sl.injEq] at hy
   obtain ⟨rfl,rfl,rfl,rfl⟩:=hy
   simp only [okV,Nat.blt_eq] at hok
   refine .sl v κ' _ _ _ (by simpa [pickM] using hok) h1 (fun b hb'=>?_) (fun hb'=>?_)
   ·rcases pickM_get hb' with h2 | ⟨_,h2⟩
    ·cases h2
    ·exact hb b h2
   ·rcases pickM_get hb' with h2 | ⟨_,h2⟩
    ·cases h2
    ·exact h0 h2
  | _=>simp [renV] at hy
 | pe v κ k j off hκ h1 hb h0 =>
  cases x with
  | pe κ' k' j' off' =>
   simp only [renV,AV.pe.injEq] at hy
   obtain ⟨rfl,rfl,rfl,rfl⟩:=hy
   simp only [okV,Nat.blt_eq] at hok
   refine .pe v κ' _ _ _ (by simpa [pickM] using hok) h1 (fun b hb'=>?_) (fun hb'=>?_)
   ·rcases pickM_get hb' with h2 | ⟨_,h2⟩
    ·cases h2
    ·exact hb b h2
   ·rcases pickM_get hb' with h2 | ⟨_,h2⟩
    ·cases h2
    ·exact h0 h2
  | _=>simp [renV] at hy
 | mr v κ hκ h1 hb h0 =>
  cases x with
  | mr κ' =>
   simp only [renV,AV.mr.injEq] at hy
   subst hy
   simp only [okV,Nat.blt_eq] at hok
   refine .mr v κ' (by simpa [pickM] using hok) h1 (fun b hb'=>?_) (fun hb'=>?_)
   ·rcases pickM_get hb' with h2 | ⟨_,h2⟩
    ·cases h2
    ·exact hb b h2
   ·rcases pickM_get hb' with h2 | ⟨_,h2⟩
    ·cases h2
    ·exact h0 h2
  | _=>simp [renV] at hy
 | pt v κ off hκ h1 hb h0 =>
  cases x with
  | pt κ' off' =>
   simp only [renV,AV.pt.injEq] at hy
   obtain ⟨rfl,rfl⟩:=hy
   simp only [okV,Nat.blt_eq] at hok
   refine .pt v κ' _ (by simpa [pickM] using hok) h1 (fun b hb'=>?_) (fun hb'=>?_)
   ·rcases pickM_get hb' with h2 | ⟨_,h2⟩
    ·cases h2
    ·exact hb b h2
   ·rcases pickM_get hb' with h2 | ⟨_,h2⟩
    ·cases h2
    ·exact h0 h2
  | _=>simp [renV] at hy
 | nsl=>cases x <;> simp [renV] at hy; exact .nsl
 | yl l=>cases x <;> simp [renV] at hy; subst hy; exact .yl _
 | mx b=>cases x <;> simp [renV] at hy; subst hy; exact .mx _
 | cv v=>cases x <;> simp [renV] at hy; subst hy; exact .cv _
 | vw v κ k off n hκ hb h0=>cases x <;> simp [renV] at hy; simp [okV] at hok
 | un v=>cases x <;> simp [renV] at hy; exact .un _
def renB (ρ:List Nat):Blk→Blk
 | .var cs=>.var (renL ρ cs)
 | .arr k es=>.arr k (renL ρ es)
 | .mp E=>.mp E
def okB (n:Nat):Blk→Bool
 | .var cs=>okL n cs
 | .arr _ es=>okL n es
 | .mp _=>true
theorem renV_cells (ρ:List Nat) (x:AV):(renV ρ x).cells=renL ρ x.cells:=by
 have key:∀ l:List D,l.map AV.d=renL ρ (l.map AV.d):=by
  intro l
  induction l with
  | nil=>rfl
  | cons a l ih=>simp only [List.map_cons,renL,renV]; rw [← ih]
 cases x with
 | d y=>exact key y.cells
 | _=>rfl
theorem okV_cells {n:Nat} {x:AV} (h:okV n x=true):okL n x.cells=true:=by
 have key:∀ l:List D,okL n (l.map AV.d)=true:=by
  intro l
  induction l with
  | nil=>rfl
  | cons a l ih=>simp [okL,okV,ih]
 cases x with
 | d y=>exact key y.cells
 | ag cs=>exact h
 | tp cs=>simpa [AV.cells,okL,okV] using h
 | fn f cs=>simpa [AV.cells,okL,okV] using h
 | fm f cs=>simpa [AV.cells,okL,okV] using h
 | sl _ _ _ _=>simpa [AV.cells,okL,okV] using h
 | pe _ _ _ _=>simpa [AV.cells,okL,okV] using h
 | mr _=>simpa [AV.cells,okL,okV] using h
 | pt _ _=>simpa [AV.cells,okL,okV] using h
 | nsl=>rfl
 | yl _=>rfl
 | mx _=>rfl
 | cv _=>rfl
 | vw _ _ _ _=>simp [okV] at h
 | un=>rfl
theorem BRel.ren {ρ:List Nat} {vs:Array Value} {B:Blk} (hok:okB ρ.length B=true) (h:BRel X m w vs (renB ρ B)):BRel X (pickM ρ m) w vs B:=by
 cases B with
 | var cs =>
  intro j c hc
  obtain ⟨v,e,hC⟩:=h j _ (renL_get ρ cs j c hc)
  exact ⟨v,e,V.ren (okL_get hok j c hc) hC.1,hC.2⟩
 | arr k es =>
  refine ⟨fun e he=>?_,fun j e l c he hc=>?_⟩
  ·obtain ⟨j,hj⟩:=List.getElem?_of_mem he
   have:=h.1 _ (List.mem_of_getElem? (renL_get ρ es j e hj))
   rwa [renV_cells,renL_length] at this
  ·have he':=renL_get ρ es j e he
   have hc':(renV ρ e).cells[l]?=some (renV ρ c):=by rw [renV_cells]; exact renL_get ρ _ l c hc
   obtain ⟨v,e1,hC⟩:=h.2 j _ l _ he' hc'
   exact ⟨v,e1,V.ren (okL_get (okV_cells (okL_get hok j e he)) l c hc) hC.1,hC.2⟩
 | mp E=>exact h
def wkT (ρ:List Nat) (T:Tp):Tp→Prop
 | []=>True
 | (t,x)::r=>(okV ρ.length x=true∧getT T t=renV ρ x)∧wkT ρ T r
def wkH (ρ:List Nat) (H:Hp):List Nat→Hp→Prop
 | [],[]=>True
 | _::ks,none::r=>wkH ρ H ks r
 | κ::ks,some B::r=>(okB ρ.length B=true∧nthK H κ fun B'=>B'=some (renB ρ B))∧wkH ρ H ks r
 | _,_=>False
theorem wkT_get {ρ:List Nat} {T:Tp}:∀ {T':Tp} (t:Nat),wkT ρ T T'→getT T' t=.un∨(okV ρ.length (getT T' t)=true∧getT T t=renV ρ (getT T' t))
 | [],t,_=>.inl rfl
 | (s,x)::r,t,h=>by
  simp only [getT]
  by_cases e:s=t
  ·subst e
   simp only [Nat.beq_refl,cond_true]
   exact .inr h.1
  ·have hb:Nat.beq s t=false:=by
    cases hq:Nat.beq s t with
    | false=>rfl
    | true=>exact absurd (Nat.eq_of_beq_eq_true hq) e
   simp only [hb,cond_false]
   exact wkT_get t h.2
theorem wkH_get {ρ:List Nat} {H:Hp}:∀ {ks:List Nat} {H':Hp},wkH ρ H ks H'→ks.length=H'.length∧∀ (i:Nat) B,H'[i]?=some (some B)→∃ κ,ks[i]?=some κ∧okB ρ.length B=true∧H[κ]?=some (some (renB ρ B))
 | [],[],_=>⟨rfl,fun i B h=>by simp at h⟩
 | _::ks,none::r,h=>by
  obtain ⟨a,b⟩:=wkH_get (ks:=ks) (H':=r) h
  refine ⟨by simp [a],fun i B hB=>?_⟩
  cases i with
  | zero=>simp at hB
  | succ i=>simpa using b i B (by simpa using hB)
 | κ::ks,some B0::r,h=>by
  obtain ⟨⟨h1,h2⟩,h3⟩:=h
  obtain ⟨B',hB',e⟩:=nthK_ok h2
  subst e
  obtain ⟨a,b⟩:=wkH_get (ks:=ks) (H':=r) h3
  refine ⟨by simp [a],fun i B hB=>?_⟩
  cases i with
  | zero=>simp at hB; subst hB; exact ⟨κ,rfl,h1,hB'⟩
  | succ i=>simpa using b i B (by simpa using hB)
 | [],_::_,h=>by cases h
 | _::_,[],h=>by cases h
@[irreducible] def Wk [Inhabited DSt] (F:Nat) (T:Tp) (H:Hp) (T':Tp) (H':Hp):Prop :=
 ∀ (X:Nat→Prop) (mb:Mp) (wb:World) (N:Nat) (m:Mp) (a:Act) (w:World),mb.length=F→Rel X mb wb N m T H a w→∃ m',Rel X mb wb N m' T' H' a w∧∀ b,ME.blk b ∈ m'→ME.blk b ∈ m
def fixed:Nat→List Nat→Nat→Bool
 | _,_,0=>true
 | i,κ::ks,F+1=>Nat.beq κ i && fixed (i+1) ks F
 | _,[],_+1=>false
theorem fixed_get:∀ {F i:Nat} {ks:List Nat},fixed i ks F=true→F≤ks.length∧∀ j,j < F→ks[j]?=some (i+j)
 | 0,i,ks,_=>⟨Nat.zero_le _,fun j h=>by omega⟩
 | F+1,i,[],h=>by simp [fixed] at h
 | F+1,i,κ::ks,h=>by
  simp only [fixed,Bool.and_eq_true] at h
  obtain ⟨a,b⟩:=fixed_get (F:=F) (i:=i+1) (ks:=ks) h.2
  have:=Nat.eq_of_beq_eq_true h.1
  refine ⟨by simp; omega,fun j hj=>?_⟩
  cases j with
  | zero=>simp [this]
  | succ j=>simpa [Nat.add_assoc,Nat.add_comm 1 j] using b j (by omega)
theorem Wk.mk [Inhabited DSt] {F:Nat} {T T':Tp} {H H':Hp} (ρ:List Nat) (hn:ρ.Nodup) (hF:fixed 0 ρ F=true) (hH:wkH ρ H ρ H') (hT:wkT ρ T T'):Wk F T H T' H':=by
 unfold Wk
 intro X mb wb N m a w hmb hr
 obtain ⟨hlen,hblk⟩:=wkH_get hH
 obtain ⟨hFl,hFg⟩:=fixed_get hF
 have hxk:Ext X mb wb (pickM ρ m) w:=by
  refine ⟨fun b hb hm=>?_,hr.ext.size,by simp [pickM]; omega,fun κ e hκ he=>?_,hr.ext.room,hr.ext.out⟩
  ·obtain ⟨h1,h2⟩:=hr.ext.keep b hb hm
   refine ⟨h1,fun hmem=>?_⟩
   obtain ⟨κ,hκ⟩:=get_of_mem hmem
   rcases pickM_get hκ with h3 | ⟨_,h3⟩
   ·cases h3
   ·exact h2 (mem_of_get h3)
  ·rcases pickM_get he with h1 | ⟨_,h1⟩
   ·exact .inl h1
   ·have hr':refK ρ κ=κ:=by simp [refK,List.getD,hFg κ (by omega)]
    rw [hr'] at h1
    exact hr.ext.same κ e hκ h1
 refine ⟨pickM ρ m,⟨hxk,hr.size,fun t=>?_,⟨by simp [pickM,hlen],fun κ B hB=>?_,fun κ κ' b h1 h2=>?_,fun κ b h1=>?_,hr.heap.old,hr.heap.tab.sub fun b hb=>by
  obtain ⟨κ,hκ⟩:=get_of_mem hb
  rcases pickM_get hκ with h3 | ⟨_,h3⟩
  ·cases h3
  ·exact mem_of_get h3⟩,?_⟩,fun b hb=>?_⟩
 ·rcases wkT_get t hT with h | ⟨h1,h2⟩
  ·rw [h]; exact .un _
  ·have:=hr.tmp t
   rw [h2] at this
   exact V.ren h1 this
 ·obtain ⟨κ',hκ,hok,hB'⟩:=hblk κ B hB
  have hpk:(pickM ρ m)[κ]?=some ((m[κ']?).getD .dead):=by simp [pickM,hκ]
  rcases hr.heap.blk κ' _ hB' with ⟨b,vs,el,h1,h2,h3⟩ | ⟨h0,q,hq⟩ | ⟨E,b,es,ck,e1,e2,e3,e4⟩
  rotate_left
  rotate_left
  ·refine .inr (.inr ⟨E,b,es,ck,?_,by rw [hpk,e2]; rfl,e3,e4.mono fun b hb=>⟨hb.pick,rfl⟩⟩)
   cases B <;> simp [renB] at e1
   rw [e1]
  ·exact .inl ⟨b,vs,el,by rw [hpk,h1]; rfl,h2,BRel.ren hok h3⟩
  ·refine .inr (.inl ⟨by rw [hpk,h0]; rfl,?_⟩)
   cases B with
   | var cs=>simp [renB] at hq
   | mp E=>simp [renB] at hq
   | arr k es =>
    simp only [renB,Blk.arr.injEq] at hq
    cases es with
    | nil=>exact ⟨k,rfl⟩
    | cons e es=>simp [renL] at hq
 ·rcases pickM_get h1 with h3 | ⟨l1,h3⟩
  ·cases h3
  ·rcases pickM_get h2 with h4 | ⟨l2,h4⟩
   ·cases h4
   ·have hinj:=hr.heap.inj _ _ _ h3 h4
    simp only [refK,List.getD,List.getElem?_eq_getElem l1,List.getElem?_eq_getElem l2,Option.getD_some] at hinj
    exact (List.getElem_inj hn).1 hinj
 ·rcases pickM_get h1 with h3 | ⟨_,h3⟩
  ·cases h3
  ·exact hr.heap.lt _ _ h3
 ·obtain ⟨ms,e,nd,hd⟩:=hr.defers
  refine ⟨ms,e,nd,fun D hD=>?_⟩
  obtain ⟨⟨h1,h2⟩,h3⟩:=hd D hD
  refine ⟨⟨h1,fun hmem=>?_⟩,h3⟩
  obtain ⟨κ,hκ⟩:=get_of_mem hmem
  rcases pickM_get hκ with h4 | ⟨_,h4⟩
  ·cases h4
  ·exact h2 (mem_of_get h4)
 ·obtain ⟨κ,hκ⟩:=get_of_mem hb
  rcases pickM_get hκ with h4 | ⟨_,h4⟩
  ·cases h4
  ·exact mem_of_get h4
theorem Tr.weak [Inhabited DSt] {cx:Cx} {c:Code} {T T':Tp} {H H':Hp} {Q:Post} (hw:Wk cx.F T H T' H') (h:Tr P cx c T' H' Q):Tr P cx c T H Q:=by
 unfold Tr at h ⊢
 unfold Wk at hw
 intro X mb wb m a w hF hr
 obtain ⟨m',hr',_⟩:=hw X mb wb cx.N m a w hF hr
 exact h X mb wb m' a w hF hr'
theorem Tr.mono [Inhabited DSt] {cx:Cx} {c:Code} {T:Tp} {H:Hp} {Q Q':Post} (h:Tr P cx c T H Q) (hq:∀ e T H,Q e T H→Q' e T H):Tr P cx c T H Q':=by
 unfold Tr at h ⊢
 intro X mb wb m a w hF hr
 exact wpX_mono (h X mb wb m a w hF hr) fun e a w ⟨m,T,H,hr,h⟩=>⟨m,T,H,hr,hq e T H h⟩
theorem LoopP.mk [Inhabited DSt] {α:Type} {cx:Cx} (hL:LayOK P cx.L) {c:Code} {T:Tp} {H:Hp} {Q:Post} (S:α→Tp × Hp) (μ:α→Nat) (x0:α) (h0:Wk cx.F T H (S x0).1 (S x0).2)
  (round:∀ x,Run P cx c (S x).1 (S x).2 fun e T' H'=>match e with
   | .normal=>∃ y,μ y < μ x∧Wk cx.F T' H' (S y).1 (S y).2
   | e=>Q e T' H'):LoopP P cx c T H Q:=by
 unfold LoopP
 refine Tr.weak h0 ?_
 unfold Tr
 intro X mb wb m a w hF hr
 have key:∀ (n:Nat) (x:α) (m:Mp) (a:Act) (w:World),μ x < n→Rel X mb wb cx.N m (S x).1 (S x).2 a w→Code.roundsX (Fw cx.ro) 0 P c (fun e a w=>∃ m T H,Rel X mb wb cx.N m T H a w∧Q e T H) n a w:=by
  intro n
  induction n with
  | zero=>intro x m a w h _; omega
  | succ n ih =>
   intro x m a w hn hr
   have h1:=Run_ok hL c _ _ _ (round x)
   unfold Tr at h1
   rw [roundsX_succ]
   refine wpX_mono (h1 X mb wb m a w hF hr) ?_
   rintro e a w ⟨m1,T1,H1,hr1,hq⟩
   cases e with
   | normal =>
    obtain ⟨y,hy,hwk⟩:=hq
    unfold Wk at hwk
    obtain ⟨m2,hr2,_⟩:=hwk X mb wb cx.N m1 a w hF hr1
    exact ih y m2 a w (by omega) hr2
   | _=>exact ⟨m1,T1,H1,hr1,hq⟩
 exact wpX_loop_rounds (μ x0+1) (key _ x0 m a w (Nat.lt_succ_self _) hr)
end Go.Abs
