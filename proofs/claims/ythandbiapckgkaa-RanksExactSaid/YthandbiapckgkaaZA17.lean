/- Iterators: functions that call yield. No condition. -/
import Derived.Test.YthandbiapckgkaaZA16
import Derived.RangeFuncRecord
namespace Go.Abs
variable {P:Program} {X:Nat→Prop} {m m':Mp} {H:Hp} {w w':World}
/-- The first world's blocks lie in the second as they lay. -/
structure KeepW (w w':World):Prop where
 size:w.heap.size≤w'.heap.size
 same:∀ b,b < w.heap.size→w'.heap[b]?=w.heap[b]?
 out:Same w w'
theorem KeepW.of_ext (h:Ext X [] w m w'):KeepW w w':=⟨h.size,fun b hb=>(h.keep b hb (by simp)).1,h.out⟩
theorem KeepW.room (h:KeepW w w') (b n:Nat) (hr:roomAt w b n):roomAt w' b n:=by
 obtain ⟨vs,el,fz,hg,hn⟩:=hr
 exact ⟨vs,el,fz,(h.same b (Array.getElem?_eq_some_iff.1 hg).1).trans hg,hn⟩
theorem KeepW.ext (h:KeepW w w'):Ext X m w m w':=⟨fun b hb hm=>⟨h.same b hb,hm⟩,h.size,Nat.le_refl _,fun _ _ _ h=>.inr h,h.room,h.out⟩
theorem KeepW.hrel (h:KeepW w w') (hh:HRel X m H w):HRel X m H w':=hh.ext_same h.ext fun κ b hκ=>h.same b (hh.lt κ b hκ).1
def newX (X:Nat→Prop) (w w':World):Nat→Prop:=fun b=>X b∨(w.heap.size≤b∧b < w'.heap.size)
/-- What comes out of an iterator; whether it is told to stop behind the last element; and whether the last element's round panics. -/
structure YL where
 l:List (List D)
 st:Bool
 pn:Option Value
def pch (pv:Value):List PanicEntry:=[{ v:=pv,recovered:=false }]
def goB (xs:YL) (i:Nat):Bool:=!(xs.st && Nat.beq (i+1) xs.l.length)
/-- What the loop over an iterator promises it: J i X w: i elements have come; X: the blocks that the rounds may write to. -/
structure JOK (P:Program) (l:Nat) (xs:YL) (J:Nat→(Nat→Prop)→World→Prop):Prop where
 mono:∀ i X X' w,J i X w→(∀ b,X b→X' b)→J i X' w
 stab:∀ i X w w',J i X w→KeepW w w'→J i X w'
 yld:∀ (i:Nat) (x:List D) (X:Nat→Prop) (w:World) (vs:Array Value),xs.l[i]?=some x→J i X w→(∀ b,X b→b < w.heap.size)→vs.size=x.length→(∀ (j:Nat) v c,vs[j]?=some v→x[j]?=some c→Rd (Imm X [] w) w v c) →
  ∃ fn tmps assign body,(Instr.yield l vs).run P w=.ok (.round l fn tmps assign body) w ∧
   RoundIn Fence.wide 0 P l fn tmps assign body w fun e w'=>w.heap.size≤w'.heap.size∧(∀ b,b < w.heap.size→¬ X b→w'.heap[b]?=w.heap[b]?)∧((e=.returned (.bool (goB xs i))∧J (i+1) (newX X w w') w')∨∃ pv,xs.pn=some pv∧e=.panicked (pch pv)∧J (xs.l.length+1) (newX X w w') w')
@[irreducible] def ylS (xs:YL) (i:Nat) (args:List AV) (K:Bool→Prop):Prop:=∃ x,xs.l[i]?=some x∧args=x.map .d∧K (goB xs i)
theorem ylS_mk {xs:YL} {i:Nat} {args:List AV} {K:Bool→Prop} (x:List D) (h:xs.l[i]?=some x) (ha:args=x.map .d) (hk:K (goB xs i)):ylS xs i args K:=by unfold ylS; exact ⟨x,h,ha,hk⟩
def dOnly:AV→AV
 | .d x=>.d x
 | .yl l=>.yl l
 | _=>.un
def forgetT:Tp→Tp
 | []=>[]
 | (t,v)::r=>(t,dOnly v)::forgetT r
theorem getT_forget:∀ (T:Tp) (t:Nat),getT (forgetT T) t=dOnly (getT T t)
 | [],_=>rfl
 | (s,v)::r,t=>by
  simp only [forgetT,getT]
  cases Nat.beq s t with
  | true=>rfl
  | false=>exact getT_forget r t
def yOp (T:Tp) (op:Op):Option (Nat × List AV) :=
 match op with
 | .call c=>match c.callee with
  | .value f=>match opd T f with
   | .yl l=>some (l,c.args.toList.map (opd T))
   | _=>none
  | _=>none
 | _=>none
def RunOpsY (P:Program) (cx:Cx) (l:Nat) (xs:YL) (all:List Oper):List Oper→Tp→Hp→Nat→(Tp→Hp→Nat→Prop)→Prop
 | [],T,H,i,K=>K T H i
 | o::os,T,H,i,K=>guardK all o.guard T
   (fun T=>match yOp T o.op with
    | some (l',args)=>ylS xs i args (fun gb=>l'=l∧putK cx.N o.dst (.d (.b gb)) (forgetT T) fun T'=>RunOpsY P cx l xs all os T' [] (i+1) K)
    | none=>stepP P cx.L o.op T H fun v H'=>putK cx.N o.dst v T fun T'=>RunOpsY P cx l xs all os T' H' i K)
   (fun T=>putK cx.N o.dst (.tp []) T fun T'=>RunOpsY P cx l xs all os T' H i K)
def RelY (J:Nat→(Nat→Prop)→World→Prop) (N:Nat) (T:Tp) (H:Hp) (i:Nat) (a:Act) (w:World):Prop:=∃ X wb m,Rel X [] wb N m T H a w∧J i X wb∧a.defers=[]
def PanY (xs:YL) (J:Nat→(Nat→Prop)→World→Prop) (e:Exit) (a:Act) (w:World):Prop:=∃ pv X,e=.panic (pch pv)∧xs.pn=some pv∧a.defers=[]∧J (xs.l.length+1) X w
theorem yOp_some {T:Tp} {o:Oper} {l:Nat} {args:List AV} (h:yOp T o.op=some (l,args)):∃ f as ts,o.op=.call { callee:=.value f,args:=as,argTypes:=ts }∧opd T f=.yl l∧args=as.toList.map (opd T):=by
 obtain ⟨dst,op,ty,pos,after,guard⟩:=o
 cases op with
 | call c =>
  obtain ⟨callee,as,ts⟩:=c
  cases callee with
  | value f =>
   simp only [yOp] at h
   cases hf:opd T f with
   | yl l' =>
    rw [hf] at h
    simp only [Option.some.injEq,Prod.mk.injEq] at h
    exact ⟨f,as,ts,rfl,by rw [hf,h.1],h.2.symm⟩
   | _=>rw [hf] at h; simp at h
  | _=>simp [yOp] at h
 | _=>simp [yOp] at h
theorem RunOpsY_ok {cx:Cx} (hL:LayOK P cx.L) {l:Nat} {xs:YL} {J:Nat→(Nat→Prop)→World→Prop} (hJ:JOK P l xs J) (ops:Array Oper) {K:Tp→Hp→Nat→Prop} {Q:Exit→Act→World→Prop}
  (hQ:∀ T H i a w,RelY J cx.N T H i a w→K T H i→Q .normal a w) (hP:∀ e a w,PanY xs J e a w→Q e a w) :
  ∀ (os:List Oper) (k:Nat) (T:Tp) (H:Hp) (i:Nat) (a:Act) (w:World),ops.toList.drop k=os→RunOpsY P cx l xs ops.toList os T H i K→RelY J cx.N T H i a w→wpOpsIn (Fw none) 0 P ops Q (List.range' k os.length) a w
 | [],k,T,H,i,a,w,_,h,hr=>hQ T H i a w hr h
 | o::os,k,T,H,i,a,w,hd,h,hr=>by
  have hoi:ops[k]?=some o:=by
   have:=congrArg (·[0]?) hd
   simpa using this
  have hdt:ops.toList.drop (k+1)=os:=by have:=congrArg List.tail hd; simpa using this
  rw [List.length_cons,List.range'_succ]
  simp only [wpOpsIn,hoi]
  simp only [RunOpsY] at h
  obtain ⟨X,wb,m,hr,hj,hdf⟩:=hr
  rcases guardK_ok h hr with ⟨hw,T',hr',h⟩ | ⟨hw,T',hr',h⟩
  ·rw [if_pos hw]
   cases hy:yOp T' o.op with
   | none =>
    rw [hy] at h
    refine NOK.next (stepP_nodefer h) (step_ok hL hr' o h) ?_
    intro v w' m' av H' h1 h2 h3 h4
    obtain ⟨T'',hr'',h5⟩:=putK_ok h4 hr' h3 h2 h1
    exact RunOpsY_ok hL hJ ops hQ hP os (k+1) T'' H' i _ w' hdt h5 ⟨X,wb,m',hr'',hj,by rw [put_defers]; exact hdf⟩
   | some p =>
    obtain ⟨l',args⟩:=p
    rw [hy] at h
    dsimp only at h
    unfold ylS at h
    obtain ⟨x,hx,hargs,rfl,h⟩:=h
    obtain ⟨f,as,ts,hop,hf,ha⟩:=yOp_some hy
    have hfv:a.eval f=.func (.yield l') #[] #[]:=by
     have:=opd_ok hr' f
     rw [hf] at this
     generalize a.eval f=u at this
     cases this with
     | yl _=>rfl
    have hvs:(as.map a.eval).size=x.length:=by
     have:=congrArg List.length (ha.symm.trans hargs)
     simpa using this
    have hvd:∀ (j:Nat) v c,(as.map a.eval)[j]?=some v→x[j]?=some c→Rd (Imm X [] w) w v c:=by
     intro j v c hv hc
     have h1:(x.map AV.d)[j]?=some (.d c):=by simp [hc]
     rw [← hargs,ha] at h1
     simp only [List.getElem?_map,Option.map_eq_some_iff,Array.getElem?_toList] at h1
     obtain ⟨y,hy1,hy2⟩:=h1
     simp only [Array.getElem?_map,Option.map_eq_some_iff] at hv
     obtain ⟨y',hy3,rfl⟩:=hv
     rw [hy1] at hy3
     cases hy3
     have:=opd_ok hr' y
     rw [hy2] at this
     generalize a.eval y=u at this
     cases this with
     | d _ _ hr=>exact hr.mono fun b hb=>⟨⟨hb.1,hb.2.1,by simp⟩,rfl⟩
    have hjw:J i X w:=hJ.stab i X wb w hj (KeepW.of_ext hr.ext)
    obtain ⟨fn,tmps,assign,body,hrun,hround⟩:=hJ.yld i x X w (as.map a.eval) hx hjw hr.heap.old hvs hvd
    refine ⟨about_true o a w,?_⟩
    rw [Oper.semAt_eq _ _ _ (fun c hc=>by rw [hop] at hc; cases hc)]
    have hexec:(execOp a.eval o).run P w=.ok (.round l' fn tmps assign body) w:=by
     obtain ⟨dst,op,ty,pos,after,guard⟩:=o
     simp only at hop
     subst hop
     simp [execOp,resolve,Deferred.ofValue,invoke,hfv,callFunc,hrun]
    rw [hexec]
    refine ⟨fun h=>by simp [Fw] at h,?_⟩
    have:Fw none=Fence.wide:=rfl
    rw [this]
    refine hround.mono ?_
    rintro e w' ⟨hsz,hsame,⟨rfl,hj'⟩ | ⟨pv,hpn,rfl,hj'⟩⟩
    rotate_left
    ·exact hP _ _ _ ⟨pv,_,rfl,hpn,hdf,hj'⟩
    have hI:∀ b,Imm X m w b→Imm (fun b=>newX X w w' b∨.blk b ∈ m) [] w' b∧w'.heap[b]?=w.heap[b]?:=by
     intro b hb
     refine ⟨⟨Nat.lt_of_lt_of_le hb.1 hsz,?_,by simp⟩,hsame b hb.1 hb.2.1⟩
     rintro ((h1 | h1) | h1)
     ·exact hb.2.1 h1
     ·have:=hb.1; omega
     ·exact hb.2.2 h1
    have hrel:Rel (fun b=>newX X w w' b∨.blk b ∈ m) [] w' cx.N [] (forgetT T') [] a w':=by
     refine ⟨.refl _ _ _,hr'.size,fun t=>?_,⟨rfl,fun κ B h=>by simp at h,fun κ κ' b h=>by simp at h,fun κ b h=>by simp at h,?_,?_⟩,⟨[],hdf,List.nodup_nil,fun D h=>by cases h⟩⟩
     ·rw [getT_forget]
      have ht:=hr'.tmp t
      generalize getT T' t=av at ht
      generalize a.tmps.getD t undef=u at ht
      cases ht with
      | d _ _ hr=>exact .d _ _ (hr.mono hI)
      | yl l=>exact .yl l
      | _=>exact .un _
     ·rintro b ((h1 | h1) | h1)
      ·exact Nat.lt_of_lt_of_le (hr.heap.old b h1) hsz
      ·exact h1.2
      ·obtain ⟨κ,hκ⟩:=get_of_mem h1
       exact Nat.lt_of_lt_of_le (hr.heap.lt κ b hκ).1 hsz
     ·refine ⟨fun g cs hg=>?_⟩
      obtain ⟨⟨el,fz,h1⟩,h2,h3⟩:=hr.heap.tab.get g cs hg
      have hlt:g < w.heap.size:=by
       rcases Nat.lt_or_ge g w.heap.size with hl | hl
       ·exact hl
       ·rw [Array.getElem?_eq_none hl] at h1; cases h1
      refine ⟨⟨el,fz,(hsame g hlt h2).trans h1⟩,?_,by simp⟩
      rintro ((h4 | h4) | h4)
      ·exact h2 h4
      ·have:=h4.1; omega
      ·exact h3 h4
    obtain ⟨T'',hr'',h5⟩:=putK_ok (u:=.bool (goB xs i)) h hrel (.refl _ _ _) hrel.heap (.d _ _ (.b _))
    exact RunOpsY_ok hL hJ ops hQ hP os (k+1) T'' [] (i+1) _ w' hdt h5 ⟨_,w',[],hr'',hJ.mono _ _ _ _ hj' (fun b hb=>.inl hb),by rw [put_defers]; exact hdf⟩
  ·rw [hw]
   simp only [Bool.false_eq_true,if_false]
   refine ⟨about_true o a w,?_⟩
   obtain ⟨T'',hr'',h5⟩:=putK_ok (u:=undef) h hr' (.refl _ _ _) hr'.heap (.tp #[] [] rfl (fun j v c h=>by simp at h))
   exact RunOpsY_ok hL hJ ops hQ hP os (k+1) T'' H i _ w hdt h5 ⟨X,wb,m,hr'',hj,by rw [put_defers]; exact hdf⟩
/- Code that calls yield. -/
@[irreducible] def TrY (P:Program) (cx:Cx) (l:Nat) (xs:YL) (c:Code) (T:Tp) (H:Hp) (i:Nat) (Q:Exit→Tp→Hp→Nat→Prop):Prop :=
 ∀ (J:Nat→(Nat→Prop)→World→Prop),JOK P l xs J→∀ (a:Act) (w:World),RelY J cx.N T H i a w→c.wpX (Fw none) 0 P (fun e a w=>(∃ T H i,RelY J cx.N T H i a w∧Q e T H i)∨PanY xs J e a w) a w
theorem RelY.weak {J:Nat→(Nat→Prop)→World→Prop} {N:Nat} {T T':Tp} {H H':Hp} {i:Nat} {a:Act} (h:Wk 0 T H T' H') (hr:RelY J N T H i a w):RelY J N T' H' i a w:=by
 obtain ⟨X,wb,m,hr,hj⟩:=hr
 unfold Wk at h
 obtain ⟨m',hr',_⟩:=h X [] wb N m a w rfl hr
 exact ⟨X,wb,m',hr',hj⟩
@[irreducible] def ItC (P:Program) (f:FuncId) (ds:List D) (xs:YL):Prop :=
 EnterOK P f∧∀ (l:Nat) (J:Nat→(Nat→Prop)→World→Prop),JOK P l xs J→∀ (X:Nat→Prop) (vals:Array Value) (w:World),vals.size=ds.length→(∀ (j:Nat) v c,vals[j]?=some v→ds[j]?=some c→Rd (Imm X [] w) w v c) →
  (∀ b,X b→b < w.heap.size)→TabX X [] w→J 0 X w→CallsIn Fence.wide 0 P f (#[.func (.yield l) #[] #[]]++vals) w fun e w'=>(∃ v X',e=.returned v∧J xs.l.length X' w')∨∃ pv X',xs.pn=some pv∧e=.panicked (pch pv)∧J (xs.l.length+1) X' w'
end Go.Abs
