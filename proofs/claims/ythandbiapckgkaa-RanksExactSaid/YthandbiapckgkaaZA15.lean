/- Regions that draw their order. No condition. -/
import Derived.Test.YthandbiapckgkaaZA14
import Derived.OrdersIn
namespace Go.Abs
variable {P:Program} {X:Nat→Prop} {m m':Mp} {H:Hp} {w w':World}
def SD (P:Program) (L:Lay) (op:Op) (T:Tp) (H:Hp) (v:AV) (H':Hp):Prop:=stepP P L op T H fun v' H''=>v'=v∧H''=H'
def sameT (T T':Tp):Prop:=∀ t,getT T t=getT T' t
theorem opd_same {T T':Tp} (h:sameT T T') (x:Operand):opd T x=opd T' x:=by
 cases x <;> simp only [opd]
 exact h _
theorem opd_list {T T':Tp}:∀ {l:List Operand},(∀ x ∈ l,opd T x=opd T' x)→l.map (opd T)=l.map (opd T')
 | [],_=>rfl
 | x::l,h=>by simp only [List.map_cons]; rw [h x (by simp),opd_list fun y hy=>h y (by simp [hy])]
theorem opd_parts {T T':Tp}:∀ {l:List (Nat × Operand)},(∀ x ∈ l,opd T x.2=opd T' x.2)→l.map (fun p=>(p.1,opd T p.2))=l.map (fun p=>(p.1,opd T' p.2))
 | [],_=>rfl
 | x::l,h=>by simp only [List.map_cons]; rw [h x (by simp),opd_parts fun y hy=>h y (by simp [hy])]
theorem opd_opt {T T':Tp} {o:Option Operand} (h:∀ x,o=some x→opd T x=opd T' x):o.map (opd T)=o.map (opd T'):=by
 cases o with
 | none=>rfl
 | some x=>simp [h x rfl]
theorem stepP_congr {L:Lay} {op:Op} {T T':Tp} {k:AV→Hp→Prop} (h:∀ x ∈ op.operands,opd T x=opd T' x):stepP P L op T H k=stepP P L op T' H k:=by
 cases op with
 | move x | assign x | box _ x | load _ x | nilCheck x | unOp _ _ x | convert _ _ x | fieldAddr _ x _ | extract x _=>
  first
   | (have hx:=h x (by simp [Op.operands]); simp only [stepP,hx])
   | (simp only [stepP]; have hx:=h (.tmp x) (by simp [Op.operands]); simp only [opd] at hx; rw [hx])
   | skip
 | pick c a b=>simp only [stepP,h c (by simp [Op.operands]),h a (by simp [Op.operands]),h b (by simp [Op.operands])]
 | build t parts=>simp only [stepP]; rw [opd_parts fun x hx=>h x.2 (by simp only [Op.operands,List.mem_toArray,List.mem_map]; exact ⟨x,hx,rfl⟩)]
 | buildSlice t n parts=>simp only [stepP]; rw [opd_parts fun x hx=>h x.2 (by simp only [Op.operands,List.mem_toArray,List.mem_map]; exact ⟨x,hx,rfl⟩)]
 | store t a v=>simp only [stepP,h a (by simp [Op.operands]),h v (by simp [Op.operands])]
 | binOp q t a v r=>simp only [stepP,h a (by simp [Op.operands]),h v (by simp [Op.operands])]
 | makeSlice t a v=>simp only [stepP,h a (by simp [Op.operands]),h v (by simp [Op.operands])]
 | indexAddr t a v=>simp only [stepP,h a (by simp [Op.operands]),h v (by simp [Op.operands])]
 | index t a v=>simp only [stepP,h a (by simp [Op.operands]),h v (by simp [Op.operands])]
 | lookup t a v c=>simp only [stepP,h a (by simp [Op.operands]),h v (by simp [Op.operands])]
 | mapUpdate t a v u=>simp only [stepP,h a (by simp [Op.operands]),h v (by simp [Op.operands]),h u (by simp [Op.operands])]
 | makeFunc f first cap =>
  cases f with
  | func f=>simp only [stepP]; rw [opd_list (l:=cap.toList) fun x hx=>h x (by simp only [Op.operands,Array.mem_append]; exact .inr (by simpa using hx)),opd_list (l:=first.toList) fun x hx=>h x (by simp only [Op.operands,Array.mem_append]; exact .inl (by simpa using hx))]
  | _=>rfl
 | slice t x lo hi mx =>
  cases mx with
  | none=>simp only [stepP]; rw [h x (by simp [Op.operands]),opd_opt (o:=lo) fun y hy=>h y (by simp [Op.operands,hy]),opd_opt (o:=hi) fun y hy=>h y (by simp [Op.operands,hy])]
  | some _=>rfl
 | call c =>
  have ha:∀ x ∈ c.args.toList,opd T x=opd T' x:=fun x hx=>h x (by
   simp only [Op.operands,Call.operands]
   cases c.callee <;> simp [Array.mem_toList_iff] at hx ⊢ <;> simp [hx])
  simp only [stepP]
  cases hc:c.callee with
  | value f=>simp only []; rw [opd_list ha,h f (by simp [Op.operands,Call.operands,hc])]
  | builtin b=>simp only []; rw [opd_list ha]
  | _=>rfl
 | typeAssert x _ t ok=>simp only [stepP,h x (by simp [Op.operands])]
 | _=>rfl
theorem nthK_mk {α:Type}:∀ {l:List α} {n:Nat} {x:α} {k:α→Prop},l[n]?=some x→k x→nthK l n k
 | [],_,_,_,h,_=>by simp at h
 | _::_,0,_,_,h,hk=>by simp at h; subst h; exact hk
 | _::l,n+1,_,_,h,hk=>nthK_mk (l:=l) (by simpa using h) hk
theorem SD_congr {L:Lay} {op:Op} {T T':Tp} {v:AV} {H':Hp} (h:∀ x ∈ op.operands,opd T x=opd T' x) (hs:SD P L op T H v H'):SD P L op T' H v H':=by
 unfold SD at *
 rwa [← stepP_congr h]
def Agree (H H':Hp):Prop:=∀ (κ:Nat) (B:Blk),H[κ]?=some (some B)→H'[κ]?=some (some B)
theorem Agree.refl (H:Hp):Agree H H:=fun _ _ h=>h
theorem nthK_agree {H H':Hp} {κ:Nat} (ha:∀ B,H[κ]?=some (some B)→H'[κ]?=some (some B)) {f:Option Blk→Prop} (h:nthK H κ f) (hn:f none→False):nthK H' κ f:=by
 obtain ⟨B,hB,hf⟩:=nthK_ok h
 cases B with
 | none=>exact (hn hf).elim
 | some B=>exact nthK_mk (ha B hB) hf
def rdBlk:AV→Option Nat
 | .mr κ | .pt κ _ | .pe κ _ _ _ | .sl κ _ _ _=>some κ
 | _=>none
def AgreeX (x:AV) (H H':Hp):Prop:=∀ κ,rdBlk x=some κ→∀ B,H[κ]?=some (some B)→H'[κ]?=some (some B)
def rdOp:Op→Bool
 | .load _ _ | .nilCheck _ | .fieldAddr _ _ _ | .indexAddr _ _ _ | .lookup _ _ _ _=>true
 | .call c=>match c.callee with
  | .builtin .len=>true
  | _=>false
 | _=>false
def rdOpd:Op→Operand
 | .load _ x | .nilCheck x | .fieldAddr _ x _ | .indexAddr _ x _ | .lookup _ x _ _=>x
 | .call c=>c.args.getD 0 (.func 0)
 | _=>.func 0
theorem ldP_agree {li:LI} {x:AV} {H H':Hp} {k:AV→Prop} (ha:AgreeX x H H') (h:ldP li x H k):ldP li x H' k:=by
 cases x with
 | pt κ o=>exact nthK_agree (ha κ rfl) h fun h=>h
 | pe κ q j o=>exact nthK_agree (ha κ rfl) h fun h=>h
 | d y=>cases y <;> exact h
 | _=>exact h
theorem ncP_agree {x:AV} {H H':Hp} {k:AV→Prop} (ha:AgreeX x H H') (h:ncP x H k):ncP x H' k:=by
 cases x with
 | pt κ o=>exact nthK_agree (ha κ rfl) h fun h=>h
 | pe κ q j o=>exact nthK_agree (ha κ rfl) h fun h=>h
 | d y=>cases y <;> exact h
 | _=>exact h
theorem faP_agree {li:LI} {f:Nat} {x:AV} {H H':Hp} {k:AV→Prop} (ha:AgreeX x H H') (h:faP li f x H k):faP li f x H' k:=by
 unfold faP at *
 obtain ⟨p,hp,h⟩:=nthK_ok h
 refine nthK_mk hp ?_
 cases hb:Nat.beq p.2 0 with
 | true=>rw [hb] at h; exact h.elim
 | false =>
  rw [hb] at h
  simp only [cond_false] at h ⊢
  cases x with
  | pt κ o=>exact nthK_agree (ha κ rfl) h fun h=>h
  | pe κ q j o=>exact nthK_agree (ha κ rfl) h fun h=>h
  | d y=>cases y <;> exact h
  | _=>exact h
theorem iaP_agree {n:Nat} {x ix:AV} {H H':Hp} {k:AV→Prop} (ha:AgreeX x H H') (h:iaP n x ix H k):iaP n x ix H' k:=by
 unfold iaP at *
 split at h
 ·split at h
  ·exact h
  ·rename_i κ q off len
   cases hb:Nat.beq q n with
   | true=>rw [hb] at h; exact nthK_agree (ha κ rfl) h fun h=>h
   | false=>rw [hb] at h; exact h
  ·exact h.elim
 ·exact h.elim
theorem lenP_agree {li:LI} {x:AV} {H H':Hp} {k:AV→Prop} (ha:AgreeX x H H') (h:lenP li x H k):lenP li x H' k:=by
 cases x with
 | sl κ q off n =>
  unfold lenP at *
  simp only [] at h ⊢
  cases hb:li.sl with
  | true=>rw [hb] at h; exact nthK_agree (ha κ rfl) h fun h=>h
  | false=>rw [hb] at h; exact h
 | d y=>cases y <;> exact h
 | _=>exact h
theorem iaA_agree {le li:LI} {x ix:AV} {H H':Hp} {k:AV→Prop} (ha:AgreeX x H H') (h:iaA le li x ix H k):iaA le li x ix H' k:=by
 unfold iaA at h ⊢
 split at h
 ·split at h
  ·rename_i κ
   cases hq:Nat.beq le.size 1 with
   | false=>rw [hq] at h; exact h.elim
   | true=>rw [hq] at h; exact nthK_agree (ha κ rfl) h fun h=>h
  ·rename_i κ off
   cases hq:Nat.beq le.size 1 with
   | false=>rw [hq] at h; exact h.elim
   | true=>rw [hq] at h; exact nthK_agree (ha κ rfl) h fun h=>h
  ·exact h.elim
 ·exact h.elim
theorem lkP_agree {li lk le:LI} {x key:AV} {H H':Hp} {k:AV→Prop} (ha:AgreeX x H H') (h:lkP li lk le x key H k):lkP li lk le x key H' k:=by
 unfold lkP at h ⊢
 cases hq:Nat.beq li.kd 5 with
 | false=>rw [hq] at h; exact h.elim
 | true =>
  rw [hq] at h
  simp only [cond_true] at h ⊢
  cases x with
  | mr κ=>exact nthK_agree (ha κ rfl) h fun h=>h
  | _=>exact h
theorem SD_agree {L:Lay} {op:Op} {T:Tp} {v:AV} {H':Hp} (hk:rdOp op=true) (ha:AgreeX (opd T (rdOpd op)) H H') (h:SD P L op T H v H):SD P L op T H' v H':=by
 unfold SD at *
 cases op with
 | load t x =>
  simp only [stepP] at h ⊢
  obtain ⟨li,hl,h⟩:=nthK_ok h
  refine nthK_mk hl ?_
  cases li with
  | none=>exact h.elim
  | some li=>exact ldP_agree ha h
 | nilCheck x =>
  simp only [stepP] at h ⊢
  exact ncP_agree ha h
 | fieldAddr t x f =>
  simp only [stepP] at h ⊢
  obtain ⟨li,hl,h⟩:=nthK_ok h
  refine nthK_mk hl ?_
  cases li with
  | none=>exact h.elim
  | some li=>exact faP_agree ha h
 | lookup t x i c =>
  cases c with
  | true=>exact h
  | false =>
  simp only [stepP] at h ⊢
  obtain ⟨li,hl,h⟩:=nthK_ok h
  refine nthK_mk hl ?_
  cases li with
  | none=>exact h.elim
  | some li =>
  obtain ⟨lk,hlk,h⟩:=nthK_ok h
  refine nthK_mk hlk ?_
  cases lk with
  | none=>exact h.elim
  | some lk =>
  obtain ⟨le,hle,h⟩:=nthK_ok h
  refine nthK_mk hle ?_
  cases le with
  | none=>exact h.elim
  | some le=>exact lkP_agree ha h
 | indexAddr t x i =>
  simp only [stepP] at h ⊢
  obtain ⟨li,hl,h⟩:=nthK_ok h
  refine nthK_mk hl ?_
  cases li with
  | none=>exact h.elim
  | some li =>
   simp only [] at h ⊢
   cases hs:li.sl with
   | false =>
    rw [hs] at h
    simp only [cond_false] at h ⊢
    cases har:li.ar with
    | false=>rw [har] at h; exact h.elim
    | true =>
     rw [har] at h
     simp only [cond_true] at h ⊢
     obtain ⟨le,hl,h⟩:=nthK_ok h
     refine nthK_mk hl ?_
     cases le with
     | none=>exact h.elim
     | some le=>exact iaA_agree ha h
   | true =>
    rw [hs] at h
    simp only [cond_true] at h ⊢
    obtain ⟨le,hl,h⟩:=nthK_ok h
    refine nthK_mk hl ?_
    cases le with
    | none=>exact h.elim
    | some le=>exact iaP_agree ha h
 | call c =>
  simp only [stepP] at h ⊢
  cases hc:c.callee with
  | builtin b =>
   rw [hc] at h
   simp only [rdOp,hc] at hk
   cases b with
   | len =>
    simp only [buiP] at h ⊢
    split at h
    ·rename_i x _ hx _
     obtain ⟨li,hl,h⟩:=nthK_ok h
     refine nthK_mk hl ?_
     have hx0:opd T (rdOpd (.call c))=x:=by
      simp only [rdOpd]
      have h0:=congrArg (·[0]?) hx
      simp only [List.getElem?_map,List.getElem?_cons_zero,Option.map_eq_some_iff,Array.getElem?_toList] at h0
      obtain ⟨y,hy,e⟩:=h0
      rw [Array.getD_eq_getD_getElem?,hy]
      exact e
     rw [hx0] at ha
     cases li with
     | none=>exact h.elim
     | some li=>exact lenP_agree ha h
    ·exact h.elim
   | _=>simp at hk
  | _=>simp [rdOp,hc] at hk
 | _=>simp [rdOp] at hk
def gst (all:Array Oper) (g:Option (Nat × Bool)) (T:Tp):Option Bool :=
 match g with
 | none=>some true
 | some (j,want)=>match all[j]? with
  | some o=>match o.dst with
   | some d=>match getT T d with
    | .d (.b x)=>some (x == want)
    | .tp []=>some false
    | _=>none
   | none=>none
  | none=>none
theorem gst_ok [Inhabited DSt] {ops:Array Oper} {o:Oper} {T:Tp} {b:Bool} (h:gst ops o.guard T=some b) {mb:Mp} {wb:World} {N:Nat} {a:Act} (hr:Rel X mb wb N m T H a w):Region.wanted o (yielded ops a.tmps)=b:=by
 have hg:guardK ops.toList o.guard T (fun _=>b=true) (fun _=>b=false):=by
  unfold gst at h
  unfold guardK
  cases hg:o.guard with
  | none=>rw [hg] at h; simp at h; show b=true; exact h ▸ rfl
  | some g =>
   obtain ⟨j,want⟩:=g
   rw [hg] at h
   simp only [] at h ⊢
   cases ho:ops[j]? with
   | none=>rw [ho] at h; simp at h
   | some oj =>
    rw [ho] at h
    dsimp only at h
    refine nthK_mk (by rw [Array.getElem?_toList]; exact ho) ?_
    cases hd:oj.dst with
    | none=>rw [hd] at h; simp at h
    | some d =>
     rw [hd] at h
     simp only [] at h ⊢
     cases hT:getT T d with
     | d y =>
      rw [hT] at h
      cases y with
      | b x =>
       simp at h
       cases want <;> cases x <;> simp at h <;> subst h <;> simp only [cond_true,cond_false] <;> exact condS_mk (fun h=>by first | trivial | cases h) (fun h=>by first | trivial | cases h)
      | _=>simp at h
     | tp vs =>
      rw [hT] at h
      cases vs with
      | nil=>simp at h; show b=false; exact h ▸ rfl
      | cons _ _=>simp at h
     | _=>rw [hT] at h; simp at h
 rcases guardK_ok hg hr with ⟨h1,_,_,h2⟩ | ⟨h1,_,_,h2⟩
 ·rw [h1]; exact h2.symm
 ·rw [h1]; exact h2.symm
def putT (dst:Option Tmp) (v:AV) (T:Tp):Tp :=
 match dst with
 | none=>T
 | some d=>(d,v)::T
def putB (N:Nat) (dst:Option Tmp):Bool :=
 match dst with
 | none=>true
 | some d=>Nat.blt d N
def opX (P:Program) (L:Lay) (ops:Array Oper) (o:Oper) (T:Tp) (H:Hp) (v:AV) (H':Hp):Prop :=
 (gst ops o.guard T=some true∧SD P L o.op T H v H')∨(gst ops o.guard T=some false∧v=.tp []∧H'=H)
def KK (K:Tp→Hp→Prop) (T:Tp) (H:Hp):Prop:=∃ T',sameT T T'∧K T' H
def Kp (W:List (Nat × Nat)) (i:Nat) (H H':Hp):Prop:=∀ (κ:Nat) (B:Blk),(i,κ) ∉ W→H[κ]?=some (some B)→H'[κ]?=some (some B)
theorem Kp.refl (W:List (Nat × Nat)) (i:Nat) (H:Hp):Kp W i H H:=fun _ _ _ h=>h
def kpP (W:List (Nat × Nat)) (i:Nat):Nat→Hp→Hp→Prop
 | _,[],_=>True
 | k,none::r,_::r'=>kpP W i (k+1) r r'
 | k,some B::r,b::r'=>(bif W.any fun p=>Nat.beq p.1 i && Nat.beq p.2 k then True else b=some B)∧kpP W i (k+1) r r'
 | _,_::_,[]=>False
theorem kpP_get {W:List (Nat × Nat)} {i:Nat}:∀ {k:Nat} {H H':Hp},kpP W i k H H'→∀ (κ:Nat) (B:Blk),(i,k+κ) ∉ W→H[κ]?=some (some B)→H'[κ]?=some (some B)
 | _,[],_,_,κ,B,_,h=>by simp at h
 | k,none::r,_::r',h,0,B,_,hB=>by simp at hB
 | k,none::r,b::r',h,κ+1,B,hW,hB=>by
  have:=kpP_get (k:=k+1) (H:=r) (H':=r') h κ B (by rwa [show k+1+κ=k+(κ+1) by omega]) (by simpa using hB)
  simpa using this
 | k,some B0::r,b::r',h,0,B,hW,hB=>by
  have h1:=h.1
  have hany:(W.any fun p=>Nat.beq p.1 i && Nat.beq p.2 k)=false:=by
   rw [List.any_eq_false]
   rintro ⟨p,q⟩ hp hpq
   simp only [Bool.and_eq_true] at hpq
   obtain rfl:=Nat.eq_of_beq_eq_true hpq.1
   obtain rfl:=Nat.eq_of_beq_eq_true hpq.2
   exact hW (by simpa using hp)
  rw [hany] at h1
  simp only [cond_false] at h1
  simp at hB ⊢
  rw [h1,hB]
 | k,some B0::r,b::r',h,κ+1,B,hW,hB=>by
  have:=kpP_get (k:=k+1) (H:=r) (H':=r') h.2 κ B (by rwa [show k+1+κ=k+(κ+1) by omega]) (by simpa using hB)
  simpa using this
 | _,none::_,[],h,_,_,_,_=>h.elim
 | _,some _::_,[],h,_,_,_,_=>h.elim
theorem kp_ok {W:List (Nat × Nat)} {i:Nat} {H H':Hp} (h:kpP W i 0 H H'):Kp W i H H':=fun κ B hW hB=>kpP_get h κ B (by simpa using hW) hB
def AnyA (P:Program) (cx:Cx) (W:List (Nat × Nat)) (ops:Array Oper) (K:Tp→Hp→Prop):Nat→Array Bool→Tp→Hp→Prop
 | 0,listed,T,H=>Region.ready .any ops listed=[]∧KK K T H
 | fuel+1,listed,T,H=>(Region.ready .any ops listed=[]→KK K T H) ∧
  ∀ i ∈ Region.ready .any ops listed,∃ o v H',ops[i]?=some o∧opX P cx.L ops o T H v H'∧Kp W i H H'∧putB cx.N o.dst=true∧AnyA P cx W ops K fuel (listed.setIfInBounds i true) (putT o.dst v T) H'
theorem getT_putT {dst:Option Tmp} {v:AV} {T:Tp} {t:Nat}:getT (putT dst v T) t=if dst=some t then v else getT T t:=by
 cases dst with
 | none=>simp [putT]
 | some d =>
  simp only [putT,getT]
  by_cases e:d=t
  ·subst e; simp
  ·have hb:Nat.beq d t=false:=by
    cases hq:Nat.beq d t with
    | false=>rfl
    | true=>exact absurd (Nat.eq_of_beq_eq_true hq) e
   simp [hb,e]
theorem sameT.refl (T:Tp):sameT T T:=fun _=>rfl
theorem sameT.trans {T T' T'':Tp} (h:sameT T T') (h':sameT T' T''):sameT T T'':=fun t=>(h t).trans (h' t)
theorem sameT.symm {T T':Tp} (h:sameT T T'):sameT T' T:=fun t=>(h t).symm
theorem sameT.put {T T':Tp} (h:sameT T T') (dst:Option Tmp) (v:AV):sameT (putT dst v T) (putT dst v T'):=fun t=>by
 rw [getT_putT,getT_putT,h t]
theorem sameT.comm (T:Tp) {d d':Option Tmp} (v v':AV) (h:∀ x,d=some x→d'≠some x):sameT (putT d v (putT d' v' T)) (putT d' v' (putT d v T)):=fun t=>by
 simp only [getT_putT]
 by_cases e:d=some t
 ·have:=h t e
  simp [e,this]
 ·simp [e]
theorem gst_same {ops:Array Oper} {o:Oper} {T T':Tp} (h:∀ t ∈ o.looksAt ops,getT T t=getT T' t):gst ops o.guard T=gst ops o.guard T':=by
 unfold gst
 cases hg:o.guard with
 | none=>rfl
 | some g =>
  obtain ⟨j,want⟩:=g
  simp only []
  cases ho:ops[j]? with
  | none=>rfl
  | some oj =>
   simp only []
   cases hd:oj.dst with
   | none=>rfl
   | some d =>
    simp only []
    rw [h d (by simp [Oper.looksAt,hg,ho,hd])]
theorem opX_congr {L:Lay} {ops:Array Oper} {o:Oper} {T T':Tp} {v:AV} {H':Hp} (h:∀ t ∈ o.looksAt ops,getT T t=getT T' t) (hx:opX P L ops o T H v H'):opX P L ops o T' H v H':=by
 unfold opX at *
 rw [← gst_same h]
 refine hx.imp (fun ⟨a,b⟩=>⟨a,SD_congr (fun x hx=>?_) b⟩) id
 cases x with
 | tmp t=>exact h t (List.mem_append_left _ (List.mem_filterMap.2 ⟨.tmp t,by simpa using hx,rfl⟩))
 | _=>rfl
theorem AnyA.congr {cx:Cx} {W:List (Nat × Nat)} {ops:Array Oper} {K:Tp→Hp→Prop}:∀ (fuel:Nat) (listed:Array Bool) (T T':Tp) (H:Hp),sameT T T'→AnyA P cx W ops K fuel listed T H→AnyA P cx W ops K fuel listed T' H
 | 0,_,_,_,_,hs,⟨h,T0,h1,h2⟩=>⟨h,T0,hs.symm.trans h1,h2⟩
 | fuel+1,_,_,_,_,hs,⟨h1,h2⟩=>⟨fun hr=>let ⟨T0,a,b⟩:=h1 hr; ⟨T0,hs.symm.trans a,b⟩,fun i hi =>
   let ⟨o,v,H',a,b,c,d,e⟩:=h2 i hi
   ⟨o,v,H',a,opX_congr (fun t _=>hs t) b,c,d,AnyA.congr fuel _ _ _ _ (hs.put o.dst v) e⟩⟩
theorem AnyA.sound [Inhabited DSt] {cx:Cx} {W:List (Nat × Nat)} (hL:LayOK P cx.L) {ops:Array Oper} {K:Tp→Hp→Prop} {mb:Mp} {wb:World} {Q:Exit→Act→World→Prop} (hQ:∀ m T H a w,Rel X mb wb cx.N m T H a w→K T H→Q .normal a w) :
  ∀ (fuel:Nat) (listed:Array Bool) (T:Tp) (H:Hp) (m:Mp) (a:Act) (w:World),AnyA P cx W ops K fuel listed T H→Rel X mb wb cx.N m T H a w→wpAnyIn (Fw cx.ro) 0 P .any ops Q fuel listed a w:=by
 have fin:∀ (T:Tp) (H:Hp) (m:Mp) (a:Act) (w:World),KK K T H→Rel X mb wb cx.N m T H a w→Q .normal a w:=by
  intro T H m a w ⟨T0,hs,hk⟩ hr
  exact hQ m T0 H a w { hr with tmp:=fun t=>by rw [← hs t]; exact hr.tmp t } hk
 intro fuel
 induction fuel with
 | zero=>intro listed T H m a w h hr; exact ⟨h.1,fin _ _ _ _ _ h.2 hr⟩
 | succ fuel ih =>
  intro listed T H m a w h hr
  refine ⟨fun h0=>fin _ _ _ _ _ (h.1 h0) hr,fun i hi=>?_⟩
  obtain ⟨o,v,H',ho,hx,_,hp,hA⟩:=h.2 i hi
  have hput:∀ {m':Mp} {w':World} {u:Value} {H1:Hp},H1=H'→Ext X m w m' w'→HRel X m' H1 w'→V X m' w' u v→Rel X mb wb cx.N m' (putT o.dst v T) H' (a.put o.dst u) w':=by
   intro m' w' u H1 e h1 h2 h3
   subst e
   cases hd:o.dst with
   | none=>exact hr.put_none h1 h2 u
   | some d =>
    rw [hd] at hp
    exact hr.put h1 h2 h3 (by simpa [putB,Nat.blt_eq] using hp)
  unfold wpOpIn
  simp only [ho]
  rcases hx with ⟨hg,hs⟩ | ⟨hg,rfl,rfl⟩
  ·rw [gst_ok hg hr,if_pos rfl]
   refine NOK.next (stepP_nodefer hs) (step_ok hL hr o hs) ?_
   intro u w' m' av H1 h1 h2 h3 h4
   obtain ⟨rfl,rfl⟩:=h4
   exact ih _ _ _ _ _ _ hA (hput rfl h3 h2 h1)
  ·rw [gst_ok hg hr]
   simp only [Bool.false_eq_true,if_false]
   exact ⟨about_true o a w,ih _ _ _ _ _ _ hA (hput (u:=undef) rfl (.refl _ _ _) hr.heap (.tp #[] [] rfl (fun j v c h=>by simp at h)))⟩
def NoW (W:List (Nat × Nat)) (ops:Array Oper) (listed:Array Bool) (i:Nat) (b:Option Nat):Prop:=b=none∨∃ S:Nat→Prop,S i∧(∀ j,S j→listed.getD j true=false) ∧
 (∀ (j:Nat) oj,S j→j≠i→ops[j]?=some oj→∃ e ∈ oj.after,Region.binds .any e=true∧S e.on) ∧
 ∀ (j:Nat) κ,¬ S j→listed.getD j true=false→b=some κ→(j,κ) ∉ W
def Steady (P:Program) (L:Lay) (W:List (Nat × Nat)) (ops:Array Oper) (listed:Array Bool) (i:Nat) (o:Oper) (T:Tp) (H:Hp) (v:AV):Prop :=
 (gst ops o.guard T=some true∧((∀ H',SD P L o.op T H' v H')∨(rdOp o.op=true∧SD P L o.op T H v H∧NoW W ops listed i (rdBlk (opd T (rdOpd o.op)))))) ∨
 (gst ops o.guard T=some false∧v=.tp [])
theorem Steady.opX {L:Lay} {W:List (Nat × Nat)} {ops:Array Oper} {listed:Array Bool} {i:Nat} {o:Oper} {T:Tp} {v:AV} (h:Steady P L W ops listed i o T H v):opX P L ops o T H v H:=by
 rcases h with ⟨h1,h2 | ⟨_,h2,_⟩⟩ | ⟨h1,h2⟩
 ·exact .inl ⟨h1,h2 H⟩
 ·exact .inl ⟨h1,h2⟩
 ·exact .inr ⟨h1,h2,rfl⟩
theorem rdOpd_mem {op:Op} (h:rdOp op=true):rdOpd op ∈ op.operands∨∃ f,rdOpd op=.func f:=by
 cases op with
 | call c =>
  simp only [rdOpd]
  cases hc:c.args[0]? with
  | none=>right; rw [Array.getD_eq_getD_getElem?,hc]; exact ⟨0,rfl⟩
  | some x =>
   left
   rw [Array.getD_eq_getD_getElem?,hc]
   simp only [Op.operands,Call.operands,Option.getD_some]
   have hm:x ∈ c.args:=Array.mem_of_getElem? hc
   cases c.callee <;> simp [hm]
 | load t x=>left; simp [rdOpd,Op.operands]
 | nilCheck x=>left; simp [rdOpd,Op.operands]
 | fieldAddr t x f=>left; simp [rdOpd,Op.operands]
 | indexAddr t x i=>left; simp [rdOpd,Op.operands]
 | lookup t x i c=>left; simp [rdOpd,Op.operands]
 | _=>simp [rdOp] at h
theorem Steady.next {L:Lay} {W:List (Nat × Nat)} {ops:Array Oper} {listed:Array Bool} {i j:Nat} {o:Oper} {T T':Tp} {H':Hp} {v:AV} (h:Steady P L W ops listed i o T H v) (hT:∀ t ∈ o.looksAt ops,getT T t=getT T' t)
  (hH:Kp W j H H') {oj:Oper} (hj:ops[j]?=some oj) (hne:j≠i) (hun:listed.getD j true=false) (hrd:∀ e ∈ oj.after,Region.binds .any e=true→listed.getD e.on true=true) :
  Steady P L W ops (listed.setIfInBounds j true) i o T' H' v:=by
 have hop:∀ x ∈ o.op.operands,opd T x=opd T' x:=by
  intro x hx
  cases x with
  | tmp t=>exact hT t (List.mem_append_left _ (List.mem_filterMap.2 ⟨.tmp t,by simpa using hx,rfl⟩))
  | _=>rfl
 unfold Steady at *
 rw [← gst_same hT]
 refine h.imp (fun ⟨a,b⟩=>⟨a,b.imp (fun h H'=>SD_congr hop (h H')) fun ⟨hr,hs,hnw⟩=>?_⟩) id
 have hx:opd T (rdOpd o.op)=opd T' (rdOpd o.op):=by
  rcases rdOpd_mem hr with hm | ⟨f,hf⟩
  ·exact hop _ hm
  ·rw [hf]; rfl
 rw [← hx]
 rcases hnw with hnone | ⟨S,h1,h2,h3,h4⟩
 ·refine ⟨hr,SD_congr hop (SD_agree hr (fun κ hκ=>?_) hs),.inl hnone⟩
  rw [hnone] at hκ; cases hκ
 ·have hS:¬ S j:=fun hSj=>by
   obtain ⟨e,he,hb,hSe⟩:=h3 j oj hSj hne hj
   have:=hrd e he hb
   rw [h2 _ hSe] at this
   cases this
  refine ⟨hr,SD_congr hop (SD_agree hr (fun κ hκ B hB=>hH κ B (h4 j κ hS hun hκ) hB) hs),.inr ⟨S,h1,fun k hk=>?_,h3,fun k κ hSk hku hκ=>h4 k κ hSk ?_ hκ⟩⟩
  ·rw [getD_set_ne true (fun e=>hS (by rw [e]; exact hk))]; exact h2 k hk
  ·by_cases hjk:j=k
   ·subst hjk; exact hun
   ·rw [getD_set_ne true hjk] at hku; exact hku
theorem AnyA.take {cx:Cx} {W:List (Nat × Nat)} {ops:Array Oper} {K:Tp→Hp→Prop} {i:Nat} {oi:Oper} {v:AV} (hi:ops[i]?=some oi) (hp:putB cx.N oi.dst=true) :
  ∀ (fuel:Nat) (listed:Array Bool) (T:Tp) (H:Hp),
   (∀ (j:Nat) oj,ops[j]?=some oj→j≠i→listed.getD j true=false→(∀ e ∈ oj.after,Region.binds .any e=true→e.on≠i)→oi.apart ops oj=true) →
   i ∈ Region.ready .any ops listed→Steady P cx.L W ops listed i oi T H v →
   AnyA P cx W ops K fuel (listed.setIfInBounds i true) (putT oi.dst v T) H→AnyA P cx W ops K (fuel+1) listed T H:=by
 intro fuel
 induction fuel with
 | zero =>
  intro listed T H _ hr hy h
  refine ⟨fun h0=>(by rw [h0] at hr; cases hr),fun j hj=>?_⟩
  by_cases hji:j=i
  ·subst hji; exact ⟨oi,v,H,hi,hy.opX,.refl _ _ _,hp,h⟩
  ·have:=ready_mono hj hji
   rw [h.1] at this
   cases this
 | succ fuel ih =>
  intro listed T H hfree hr hy h
  refine ⟨fun h0=>(by rw [h0] at hr; cases hr),fun j hj=>?_⟩
  by_cases hji:j=i
  ·subst hji; exact ⟨oi,v,H,hi,hy.opX,.refl _ _ _,hp,h⟩
  ·obtain ⟨o,u,H',ho,hx,hag,hpj,hA⟩:=h.2 j (ready_mono hj hji)
   obtain ⟨hjun,oj,hoj,hall⟩:=mem_ready.1 hj
   rw [hoj] at ho
   obtain rfl:oj=o:=by simpa using ho
   have hnot:∀ e ∈ oj.after,Region.binds .any e=true→e.on≠i:=fun e he hb heq=>by
    have h1:=hall e he hb
    have h0:=(mem_ready.1 hr).1
    rw [heq] at h1
    rcases Nat.lt_or_ge i listed.size with h' | h'
    ·simp [h'] at h0 h1; rw [h0] at h1; cases h1
    ·simp [Array.getElem?_eq_none h'] at h1
   have hrdy:∀ e ∈ oj.after,Region.binds .any e=true→listed.getD e.on true=true:=fun e he hb=>by
    have h1:=hall e he hb
    rcases Nat.lt_or_ge e.on listed.size with h' | h'
    ·simpa [h'] using h1
    ·simp [Array.getElem?_eq_none h'] at h1
   obtain ⟨h1,h2,h3⟩:=Oper.apart_spec (hfree j oj hoj hji hjun hnot)
   have hfree':∀ (k:Nat) ok,ops[k]?=some ok→k≠i→(listed.setIfInBounds j true).getD k true=false →
     (∀ e ∈ ok.after,Region.binds .any e=true→e.on≠i)→oi.apart ops ok=true:=fun k ok hk hki hun hno=>by
    refine hfree k ok hk hki ?_ hno
    by_cases hjk:j=k
    ·subst hjk; exact hjun
    ·rw [getD_set_ne true hjk] at hun; exact hun
   refine ⟨oj,u,H',hoj,opX_congr (fun t ht=>?_) hx,hag,hpj,?_⟩
   ·rw [getT_putT,if_neg fun e=>h1 t e ht]
   ·refine ih (listed.setIfInBounds j true) _ H' hfree' (ready_mono hr (Ne.symm hji)) (hy.next (fun t ht=>?_) hag hoj hji hjun (fun e he hb=>hrdy e he hb)) ?_
    ·rw [getT_putT,if_neg fun e=>h3 t e ht]
    ·rw [Array.setIfInBounds_comm _ _ hji]
     exact hA.congr _ _ _ _ _ (sameT.comm T _ _ fun x hx hx'=>h2 x hx' hx)
def lateSet (ops:Array Oper) (i:Nat):Array Bool :=
 (List.range ops.size).foldl (fun acc j=>acc.push (j == i || match ops[j]? with
  | some oj=>oj.after.any fun e=>Region.binds .any e && acc.getD e.on false
  | none=>false)) #[]
def noWr (W:List (Nat × Nat)) (ops:Array Oper) (listed:Array Bool) (i κ:Nat):Bool :=
 let S:=lateSet ops i
 S.getD i false && ((List.range ops.size).all fun j=>bif S.getD j false then !listed.getD j true else true) && W.all fun p=>S.getD p.1 false || listed.getD p.1 true || !Nat.beq p.2 κ
theorem lateSet_spec (ops:Array Oper) (i:Nat):(lateSet ops i).size=ops.size∧∀ (j:Nat) oj,(lateSet ops i).getD j false=true→j≠i→ops[j]?=some oj→∃ e ∈ oj.after,Region.binds .any e=true∧(lateSet ops i).getD e.on false=true:=by
 unfold lateSet
 have key:∀ n,n≤ops.size→∀ A:Array Bool,A=List.foldl (fun (acc:Array Bool) (j:Nat)=>acc.push (j == i || match ops[j]? with
   | some oj=>oj.after.any fun e=>Region.binds .any e && acc.getD e.on false
   | none=>false)) (#[]:Array Bool) (List.range n) →
   A.size=n∧∀ (j:Nat) oj,A.getD j false=true→j≠i→ops[j]?=some oj→∃ e ∈ oj.after,Region.binds .any e=true∧A.getD e.on false=true:=by
  intro n
  induction n with
  | zero=>intro _ A hA; subst hA; exact ⟨rfl,fun j oj h=>by simp at h⟩
  | succ n ih =>
   intro hn A' hA'
   obtain ⟨A,hA⟩:∃ A,A=List.foldl (fun (acc:Array Bool) (j:Nat)=>acc.push (j == i || match ops[j]? with
    | some oj=>oj.after.any fun e=>Region.binds .any e && acc.getD e.on false
    | none=>false)) (#[]:Array Bool) (List.range n):=⟨_,rfl⟩
   obtain ⟨h1,h2⟩:=ih (by omega) A hA
   rw [List.range_succ,List.foldl_append,← hA] at hA'
   simp only [List.foldl_cons,List.foldl_nil] at hA'
   subst hA'
   have mono:∀ (b:Bool) (k:Nat),A.getD k false=true→(A.push b).getD k false=true:=by
    intro b k hk
    rw [Array.getD_eq_getD_getElem?] at hk ⊢
    cases hA:A[k]? with
    | none=>rw [hA] at hk; simp at hk
    | some x =>
     have hlt:=(Array.getElem?_eq_some_iff.1 hA).1
     rw [Array.getElem?_push_lt hlt]
     rw [hA] at hk
     simpa [hA] using (Array.getElem?_eq_some_iff.1 hA).2.trans (by simpa using hk)
   refine ⟨by simp [h1],fun j oj hj hne ho=>?_⟩
   rcases Nat.lt_trichotomy j n with hlt | heq | hgt
   ·have:A.getD j false=true:=by
     rw [Array.getD_eq_getD_getElem?] at hj ⊢
     rwa [Array.getElem?_push_lt (by omega),← Array.getElem?_eq_getElem (by omega:j < A.size)] at hj
    obtain ⟨e,he,hb,hs⟩:=h2 j oj this hne ho
    exact ⟨e,he,hb,mono _ _ hs⟩
   ·subst heq
    rw [Array.getD_eq_getD_getElem?,Array.getElem?_push,if_pos (by omega)] at hj
    simp only [Option.getD_some,ho,Bool.or_eq_true,beq_iff_eq,hne,false_or] at hj
    rw [Array.any_eq_true'] at hj
    obtain ⟨e,he,hb⟩:=hj
    simp only [Bool.and_eq_true] at hb
    exact ⟨e,he,hb.1,mono _ _ hb.2⟩
   ·rw [Array.getD_eq_getD_getElem?,Array.getElem?_eq_none (by simp; omega)] at hj
    simp at hj
 exact key ops.size (Nat.le_refl _) _ rfl
theorem noWr_spec {W:List (Nat × Nat)} {ops:Array Oper} {listed:Array Bool} {i κ:Nat} (h:noWr W ops listed i κ=true):NoW W ops listed i (some κ):=by
 unfold noWr at h
 simp only [Bool.and_eq_true,List.all_eq_true] at h
 obtain ⟨⟨h0,h⟩,hw⟩:=h
 obtain ⟨hs,hl⟩:=lateSet_spec ops i
 have lt:∀ j,(lateSet ops i).getD j false=true→j < ops.size:=by
  intro j hj
  rw [Array.getD_eq_getD_getElem?] at hj
  cases hA:(lateSet ops i)[j]? with
  | none=>rw [hA] at hj; simp at hj
  | some x=>rw [← hs]; exact (Array.getElem?_eq_some_iff.1 hA).1
 refine .inr ⟨fun j=>(lateSet ops i).getD j false=true,h0,fun j hj=>?_,fun j oj hj hne ho=>hl j oj hj hne ho,fun j κ' hS hun hκ hm=>?_⟩
 ·have:=h j (List.mem_range.2 (lt j hj))
  rw [hj] at this
  simpa using this
 ·cases hκ
  have:=hw _ hm
  rw [show (lateSet ops i).getD j false=false by simpa using hS,hun] at this
  simp at this
def rdB:Nat→Option Nat
 | 0=>none
 | k+1=>some k
def okSeq (W:List (Nat × Nat)) (ops:Array Oper):List (Nat × Nat)→Array Bool→Bool
 | [],listed=>(Region.ready .any ops listed).isEmpty
 | (i,md)::σ,listed=>(match md with
   | 0=>Region.ready .any ops listed == [i]
   | 1=>(Region.ready .any ops listed).contains i && Region.free .any ops listed i
   | md+2=>(Region.ready .any ops listed).contains i && Region.free .any ops listed i && (match rdB md with
     | none=>true
     | some κ=>noWr W ops listed i κ)) && okSeq W ops σ (listed.setIfInBounds i true)
theorem Rel.drew [Inhabited DSt] {mb:Mp} {wb:World} {N:Nat} {T:Tp} {a:Act} (h:Rel X mb wb N m T H a w) (n:Nat):Rel X mb wb N m T H a { w with drawn:=n }:=by
 have hx:Ext X m w m { w with drawn:=n }:=⟨fun _ _ h=>⟨rfl,h⟩,Nat.le_refl _,Nat.le_refl _,fun _ _ _ h=>.inr h,fun _ _ h=>h,rfl,rfl,rfl⟩
 refine h.put_none hx ⟨h.heap.len,fun κ B hB=>?_,h.heap.inj,h.heap.lt,h.heap.old,h.heap.tab.ext hx⟩ undef
 rcases h.heap.blk κ B hB with ⟨b,vs,el,h1,h2,h3⟩ | h1 | ⟨E,b,es,ck,e1,e2,e3,e4⟩
 ·exact .inl ⟨b,vs,el,h1,h2,h3.ext hx⟩
 ·exact .inr (.inl h1)
 ·exact .inr (.inr ⟨E,b,es,ck,e1,e2,e3,e4.ext hx⟩)
theorem DrawP.any [Inhabited DSt] {cx:Cx} {W:List (Nat × Nat)} (hL:LayOK P cx.L) (hm:P.follows .mixedOrders=true) {id:Nat} {ops:Array Oper} {T:Tp} {H:Hp} {K:Tp→Hp→Prop}
  (h:AnyA P cx W ops K ops.size (Array.replicate ops.size false) T H):DrawP P cx id ops T H K:=by
 unfold DrawP Tr
 intro X mb wb m a w hF hr
 exact wpX_region_any hm (AnyA.sound hL (fun m T H a w hr hk=>⟨m,T,H,hr,hk⟩) ops.size _ T H m a _ h (hr.drew _))
end Go.Abs
