/- Calls that may panic: contracts, regions, ends of bodies. No condition. -/
import Derived.Test.YthandbiapckgkaaZB9
namespace Go.Abs
variable {P:Program} {X X':Nat→Prop} {m m':Mp} {H:Hp} {w w':World}
@[irreducible] def ECallP (P:Program) (f:FuncId) (args:List AV) (H:Hp) (R:AV→Hp→Prop) (Pn:Value→Hp→Prop):Prop :=
 EnterOK P f∧∀ (X:Nat→Prop) (m:Mp) (vals:Array Value) (w:World),vals.size=args.length→(∀ (j:Nat) v c,vals[j]?=some v→args[j]?=some c→V X m w v c)→HRel X m H w →
  CallsIn Fence.wide 0 P f vals w fun e w'=>(∃ v m' r H',e=.returned v∧V X m' w' v r∧HRel X m' H' w'∧Ext X m w m' w'∧R r H')∨∃ pv m' H',e=.panicked (pch pv)∧HRel X m' H' w'∧Ext X m w m' w'∧Pn pv H'
def caPP (P:Program) (f:AV) (args:List AV) (H:Hp) (k:AV→Hp→Prop) (pn:Value→Hp→Prop):Prop :=
 match f with
 | .d (.fn g caps)=>ECallP P g (args++caps.map .d) H k pn
 | .fn g caps=>ECallP P g (args++caps) H k pn
 | .d (.fm g fs)=>ECallP P g (fs.map .d++args) H k pn
 | .fm g fs=>ECallP P g (fs++args) H k pn
 | _=>False
def emptyT (P:Program) (t:TypeId):Bool:=match P.info? t,P.underlying t with
 | some i,some (.struct ⟨[]⟩)=>(match i.zero with
  | some z=>Nat.beq z.cells.size 0
  | none=>false)
 | _,_=>false
theorem emptyT_run {t:TypeId} (h:emptyT P t=true):(Instr.build t #[]).run P w=.ok (.agg #[]) w:=by
 unfold emptyT at h
 split at h
 ·rename_i i h1 h2
  cases hz:i.zero with
  | none=>rw [hz] at h; cases h
  | some z =>
   rw [hz] at h
   have hc:z.cells=#[]:=Array.eq_empty_of_size_eq_zero (Nat.eq_of_beq_eq_true h)
   simp [Instr.build,zeroValue,typeInfo,h1,hz,underlying,h2,hc,Instr.fill]
 ·cases h
def isIfaceB (P:Program) (t:TypeId):Bool:=match P.underlying t with
 | some (.interface _)=>true
 | _=>false
theorem neqI_run {t:TypeId} (h:isIfaceB P t=true) {x:Operand} (ti:TypeId) (v:Value):((do eqGuard .neq t x (.const .nilIface) (.iface ti v) .nilIface; binOp .neq t (.iface ti v) .nilIface:Sem Value)).run P w=.ok (.bool true) w:=by
 unfold isIfaceB at h
 split at h
 ·rename_i hu
  have e:(Op.equal t (.iface ti v) .nilIface).run P w=.ok false w:=by
   show (Op.equalIn (9999+1) t (.iface ti v) .nilIface).run P w=_
   unfold Op.equalIn
   simp [underlying,hu]
  simp [eqGuard,binOp,e]
 ·cases h
theorem neqN_run {t:TypeId} (h:isIfaceB P t=true) {x:Operand}:((do eqGuard .neq t x (.const .nilIface) .nilIface .nilIface; binOp .neq t .nilIface .nilIface:Sem Value)).run P w=.ok (.bool false) w:=by
 unfold isIfaceB at h
 split at h
 ·rename_i hu
  have e:(Op.equal t .nilIface .nilIface).run P w=.ok true w:=by
   show (Op.equalIn (9999+1) t .nilIface .nilIface).run P w=_
   unfold Op.equalIn
   simp [underlying,hu]
  simp [eqGuard,binOp,e]
 ·cases h
def stepPP (P:Program) (L:Lay) (op:Op) (T:Tp) (H:Hp) (k:AV→Hp→Prop) (pn:Value→Hp→Prop):Prop :=
 stepP P L op T H k∨match op with
  | .call c=>(match c.callee with
   | .value f=>caPP P (opd T f) (c.args.toList.map (opd T)) H k pn
   | _=>False)
  | .binOp op t x y _=>op=.neq∧y=.const .nilIface∧isIfaceB P t=true∧((∃ ti v,opd T x=.cv (.iface ti v)∧k (.d (.b true)) H)∨(opd T x=.d .ni∧k (.d (.b false)) H))
  | .typeAssert x _ t ok=>∃ v c,opd T x=.cv (.iface t v)∧ifaceB P t=true∧closedV c=some v∧k (bif ok then .tp [c,.d (.b true)] else c) H
  | .build t parts=>parts.toList=[]∧emptyT P t=true∧k (.d (.ag [])) H
  | .makeInterface t x=>∃ v,closedV (opd T x)=some v∧ifaceB P t=true∧k (.cv (.iface t v)) H
  | .panic x=>∃ t v,opd T x=.cv (.iface t v)∧pn (.iface t v) H
  | _=>False
def NOKP (P:Program) (X:Nat→Prop) (m:Mp) (w:World) (s:Sem Next) (k:AV→Hp→Prop) (pn:Value→Hp→Prop):Prop :=
 NOK P X m w s k ∨
 (∃ f args,s.run P w=.ok (Next.enter f args) w∧CallsIn Fence.wide 0 P f args w fun e w'=>(∃ v m' r H',e=.returned v∧V X m' w' v r∧HRel X m' H' w'∧Ext X m w m' w'∧k r H')∨∃ pv m' H',e=.panicked (pch pv)∧HRel X m' H' w'∧Ext X m w m' w'∧pn pv H') ∨
 ∃ v H',s.run P w=.halt (.panic v) w∧HRel X m H' w∧pn v H'
theorem caPP_ok {f:AV} {args:List AV} {vf:Value} {vals:Array Value} {k:AV→Hp→Prop} {pn:Value→Hp→Prop} (hf:V X m w vf f) (hl:vals.size=args.length) (hv:∀ (j:Nat) v c,vals[j]?=some v→args[j]?=some c→V X m w v c) (hh:HRel X m H w)
  (h:caPP P f args H k pn):NOKP P X m w (do let d ← Deferred.ofValue vf vals; invoke d.target d.args) k pn:=by
 have main:∀ (g:FuncId) (cs:Array Value) (caps:List AV),vf=.func (.func g) #[] cs→cs.size=caps.length→(∀ (j:Nat) v c,cs[j]?=some v→caps[j]?=some c→V X m w v c)→ECallP P g (args++caps) H k pn →
   NOKP P X m w (do let d ← Deferred.ofValue vf vals; invoke d.target d.args) k pn:=by
  intro g cs caps hvf hcl hcv h
  subst hvf
  unfold ECallP at h
  obtain ⟨⟨fn,c,hfn,hbody,hname⟩,h⟩:=h
  refine .inr (.inl ⟨g,vals++cs,?_,h X m (vals++cs) w (by simp [hl,hcl]) (fun j v c h1 h2=>?_) hh⟩)
  ·simp [Deferred.ofValue,invoke,callFunc,hfn,hbody,beq_eq_false_iff_ne.1 hname]
  ·by_cases hlt:j < vals.size
   ·rw [Array.getElem?_append_left hlt] at h1
    rw [List.getElem?_append_left (by omega)] at h2
    exact hv j v c h1 h2
   ·rw [Array.getElem?_append_right (by omega)] at h1
    rw [List.getElem?_append_right (by omega)] at h2
    rw [hl] at h1
    exact hcv _ v c h1 h2
 have main2:∀ (g:FuncId) (cs:Array Value) (caps:List AV),vf=.func (.func g) cs #[]→cs.size=caps.length→(∀ (j:Nat) v c,cs[j]?=some v→caps[j]?=some c→V X m w v c)→ECallP P g (caps++args) H k pn →
   NOKP P X m w (do let d ← Deferred.ofValue vf vals; invoke d.target d.args) k pn:=by
  intro g cs caps hvf hcl hcv h
  subst hvf
  unfold ECallP at h
  obtain ⟨⟨fn,c,hfn,hbody,hname⟩,h⟩:=h
  refine .inr (.inl ⟨g,cs++vals,?_,h X m (cs++vals) w (by simp [hl,hcl]) (fun j v c h1 h2=>?_) hh⟩)
  ·simp [Deferred.ofValue,invoke,callFunc,hfn,hbody,beq_eq_false_iff_ne.1 hname]
  ·by_cases hlt:j < cs.size
   ·rw [Array.getElem?_append_left hlt] at h1
    rw [List.getElem?_append_left (by omega)] at h2
    exact hcv j v c h1 h2
   ·rw [Array.getElem?_append_right (by omega)] at h1
    rw [List.getElem?_append_right (by omega)] at h2
    rw [hcl] at h1
    exact hv _ v c h1 h2
 unfold caPP at h
 cases hf with
 | fn g cs caps hcl hcv=>exact main g cs caps rfl hcl hcv h
 | fm g cs caps hcl hcv=>exact main2 g cs caps rfl hcl hcv h
 | d _ x hr =>
  cases hr with
  | fn g cs ds hcl hcv=>exact main g cs (ds.map .d) rfl (by simpa using hcl) (fun j v c h1 h2=>by
    rw [List.getElem?_map,Option.map_eq_some_iff] at h2
    obtain ⟨d,hd,rfl⟩:=h2
    exact .d _ _ (hcv j v d h1 hd)) h
  | fm g cs ds hcl hcv=>exact main2 g cs (ds.map .d) rfl (by simpa using hcl) (fun j v c h1 h2=>by
    rw [List.getElem?_map,Option.map_eq_some_iff] at h2
    obtain ⟨d,hd,rfl⟩:=h2
    exact .d _ _ (hcv j v d h1 hd)) h
  | _=>exact h.elim
 | _=>exact h.elim
theorem stepPP_ok [Inhabited DSt] {L:Lay} (hL:LayOK P L) {mb:Mp} {wb:World} {N:Nat} {T:Tp} {a:Act} (hr:Rel X mb wb N m T H a w) (o:Oper) {k:AV→Hp→Prop} {pn:Value→Hp→Prop} (h:stepPP P L o.op T H k pn):NOKP P X m w (execOp a.eval o) k pn∧∀ c,o.op≠.defer c:=by
 rcases h with h | h
 ·exact ⟨.inl (step_ok hL hr o h),stepP_nodefer h⟩
 ·obtain ⟨dst,op,type,pos,after,guard⟩:=o
  dsimp only at h ⊢
  refine ⟨?_,fun c hc=>by rw [hc] at h; exact h⟩
  have ho:=fun x=>opd_ok hr x
  cases op with
  | call c =>
   obtain ⟨callee,args,argTypes⟩:=c
   cases callee with
   | value f =>
    refine caPP_ok (ho f) (vals:=args.map a.eval) (by simp) (fun j v c h1 h2=>?_) hr.heap h
    rw [Array.getElem?_map,Option.map_eq_some_iff] at h1
    rw [List.getElem?_map,Option.map_eq_some_iff] at h2
    obtain ⟨x,hx,rfl⟩:=h1
    obtain ⟨y,hy,rfl⟩:=h2
    rw [Array.getElem?_toList,hx] at hy
    cases hy
    exact ho x
   | _=>exact h.elim
  | binOp op t x y ty =>
   obtain ⟨rfl,rfl,h1,h2⟩:=h
   rcases h2 with ⟨ti,v,h2,h3⟩ | ⟨h2,h3⟩
   ·have hx:=ho x
    rw [h2] at hx
    have hxe:a.eval x=.iface ti v:=by
     generalize a.eval x=u at hx
     cases hx; rfl
    refine .inl (.inl ⟨.bool true,w,m,_,H,.inl ?_,.d _ _ (.b _),hr.heap,.refl _ _ _,h3⟩)
    have:=neqI_run (w:=w) h1 (x:=x) ti v
    simp only [execOp,hxe,show a.eval (.const .nilIface)=.nilIface from rfl]
    rw [Sem.run_bind,this]; rfl
   ·have hx:=ho x
    rw [h2] at hx
    have hxe:a.eval x=.nilIface:=by
     generalize a.eval x=u at hx
     cases hx with
     | d _ _ hr=>cases hr; rfl
    refine .inl (.inl ⟨.bool false,w,m,_,H,.inl ?_,.d _ _ (.b _),hr.heap,.refl _ _ _,h3⟩)
    have:=neqN_run (w:=w) h1 (x:=x)
    simp only [execOp,hxe,show a.eval (.const .nilIface)=.nilIface from rfl]
    rw [Sem.run_bind,this]; rfl
  | typeAssert x xt t ok =>
   obtain ⟨v,c,h1,h2,h3,h4⟩:=h
   have hx:=ho x
   rw [h1] at hx
   have hxe:a.eval x=.iface t v:=by
    generalize a.eval x=u at hx
    cases hx; rfl
   have hv:V X m w v c:=closedV_mk h3
   refine .inl (.inl ⟨if ok then .tuple #[v,.bool true] else v,w,m,_,H,.inl ?_,?_,hr.heap,.refl _ _ _,h4⟩)
   ·simp only [execOp,hxe]
    rw [Sem.run_bind,assert_run h2]; rfl
   ·cases ok with
    | false=>exact hv
    | true =>
     refine .tp #[v,.bool true] [c,.d (.b true)] rfl fun j u c' hu hc=>?_
     match j,hu,hc with
     | 0,hu,hc=>simp at hu hc; subst hu; subst hc; exact hv
     | 1,hu,hc=>simp at hu hc; subst hu; subst hc; exact .d _ _ (.b _)
     | j+2,hu,hc=>simp at hc
  | build t parts =>
   obtain ⟨h1,h2,h3⟩:=h
   obtain ⟨l⟩:=parts
   cases h1
   refine .inl (.inl ⟨.agg #[],w,m,_,H,.inl ?_,.d _ _ (.ag #[] [] rfl (fun j v h=>by simp at h) fun j v c h=>by simp at h),hr.heap,.refl _ _ _,h3⟩)
   simp [execOp,emptyT_run h2]
  | makeInterface t x =>
   obtain ⟨v,h1,h2,h3⟩:=h
   have hv:=closedV_ok (ho x) h1
   refine .inl (.inl ⟨.iface t v,w,m,_,H,.inl ?_,.cv _,hr.heap,.refl _ _ _,h3⟩)
   unfold ifaceB at h2
   cases hu:P.underlying t with
   | none=>rw [hu] at h2; cases h2
   | some u =>
    rw [hu] at h2
    cases u with
    | interface _=>cases h2
    | _=>simp [execOp,Instr.makeInterface,underlying,hu,hv]
  | panic x =>
   obtain ⟨t,v,h1,h2⟩:=h
   have hx:=ho x
   rw [h1] at hx
   have:a.eval x=.iface t v:=by
    generalize a.eval x=u at hx
    cases hx; rfl
   refine .inr (.inr ⟨.iface t v,H,?_,hr.heap,h2⟩)
   simp [execOp,Instr.panic,goPanic,this]
  | _=>exact h.elim
end Go.Abs
