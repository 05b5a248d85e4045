/- Regions in the order of the text; code; what a function's run comes to. No condition. -/
import Derived.Test.YthandbiapckgkaaZA12
import Derived.Test.YthandbiapckgkaaZA0
namespace Go.Abs
variable {P:Program} {X:Nat→Prop} {m m':Mp} {H:Hp} {w w':World}
/-- What is fixed while a function's code runs: its number of temporaries,the round,the types. -/
structure Cx where
 N:Nat
 ro:Option Nat
 L:Lay
 F:Nat
def guardK (all:List Oper) (g:Option (Nat × Bool)) (T:Tp) (yes no:Tp→Prop):Prop :=
 match g with
 | none=>yes T
 | some (j,want)=>nthK all j fun o=>match o.dst with
  | some d=>match getT T d with
   | .d (.b x)=>bif want then condS x (yes ((d,.d (.b true))::T)) (no ((d,.d (.b false))::T)) else condS x (no ((d,.d (.b true))::T)) (yes ((d,.d (.b false))::T))
   | .tp []=>no T
   | _=>False
  | none=>False
def putK (N:Nat) (dst:Option Tmp) (v:AV) (T:Tp) (k:Tp→Prop):Prop :=
 match dst with
 | none=>k T
 | some d=>bif Nat.blt d N then k ((d,v)::T) else False
def RunOps (P:Program) (cx:Cx) (all:List Oper):List Oper→Tp→Hp→(Tp→Hp→Prop)→Prop
 | [],T,H,K=>K T H
 | o::os,T,H,K=>guardK all o.guard T
   (fun T=>stepP P cx.L o.op T H fun v H'=>putK cx.N o.dst v T fun T'=>RunOps P cx all os T' H' K)
   (fun T=>putK cx.N o.dst (.tp []) T fun T'=>RunOps P cx all os T' H K)
theorem Rel.know [Inhabited DSt] {mb:Mp} {wb:World} {N:Nat} {T:Tp} {a:Act} (h:Rel X mb wb N m T H a w) {d:Nat} {x:Bool} (hd:getT T d=.d (.b x)):Rel X mb wb N m ((d,.d (.b x))::T) H a w:=by
 refine { h with tmp:=fun t=>?_ }
 simp only [getT]
 by_cases e:d=t
 ·subst e
  simp only [Nat.beq_refl,cond_true]
  rw [← hd]; exact h.tmp d
 ·have hb:Nat.beq d t=false:=by
   cases hq:Nat.beq d t with
   | false=>rfl
   | true=>exact absurd (Nat.eq_of_beq_eq_true hq) e
  simp only [hb,cond_false]
  exact h.tmp t
theorem putK_ok [Inhabited DSt] {N:Nat} {dst:Option Tmp} {v:AV} {T:Tp} {k:Tp→Prop} (h:putK N dst v T k) {mb:Mp} {wb:World} {a:Act} (hr:Rel X mb wb N m T H a w) {H':Hp} (hx:Ext X m w m' w') (hh:HRel X m' H' w') {u:Value} (hv:V X m' w' u v) :
  ∃ T',Rel X mb wb N m' T' H' (a.put dst u) w'∧k T':=by
 unfold putK at h
 cases dst with
 | none=>exact ⟨T,hr.put_none hx hh u,h⟩
 | some d =>
  dsimp only at h
  cases hd:Nat.blt d N with
  | false=>rw [hd] at h; exact h.elim
  | true =>
   rw [hd] at h
   exact ⟨_,hr.put hx hh hv (by simpa [Nat.blt_eq] using hd),h⟩
theorem guardK_ok [Inhabited DSt] {ops:Array Oper} {o:Oper} {T:Tp} {yes no:Tp→Prop} (h:guardK ops.toList o.guard T yes no) {mb:Mp} {wb:World} {N:Nat} {a:Act} (hr:Rel X mb wb N m T H a w) :
  (Region.wanted o (yielded ops a.tmps)=true∧∃ T',Rel X mb wb N m T' H a w∧yes T')∨(Region.wanted o (yielded ops a.tmps)=false∧∃ T',Rel X mb wb N m T' H a w∧no T'):=by
 unfold guardK at h
 unfold Region.wanted
 cases hg:o.guard with
 | none=>rw [hg] at h; exact .inl ⟨rfl,T,hr,h⟩
 | some g =>
  obtain ⟨j,want⟩:=g
  rw [hg] at h
  replace h:=nthK_ok h
  obtain ⟨oj,hoj,h⟩:=h
  rw [Array.getElem?_toList] at hoj
  cases hd:oj.dst with
  | none=>rw [hd] at h; exact h.elim
  | some d =>
   rw [hd] at h
   dsimp only at h
   have ht:=hr.tmp d
   have hy:∀ v,a.tmps.getD d undef=v→(v≠undef∨True)→yielded ops a.tmps j=(match a.tmps[d]? with | some (.bool b)=>some b | _=>none):=by
    intro v _ _
    simp only [yielded,hoj,Option.bind_some,hd]
    cases a.tmps[d]? with
    | none=>rfl
    | some u=>cases u <;> rfl
   have hy:=hy _ rfl (.inr trivial)
   have hget:∀ v,a.tmps.getD d undef=v→v≠undef→a.tmps[d]?=some v:=by
    intro v hv hne
    rw [Array.getD_eq_getD_getElem?] at hv
    cases hq:a.tmps[d]? with
    | none=>rw [hq] at hv; exact absurd hv.symm hne
    | some u=>rw [hq] at hv; simp at hv; rw [hv]
   cases hT:getT T d with
   | d y =>
    rw [hT] at h ht
    cases y with
    | b x =>
     have hb:=ht.bool
     have hq:=hget _ hb (by simp [undef])
     rw [hq] at hy
     dsimp only at h hy ⊢
     cases want with
     | true =>
      simp only [cond_true] at h
      replace h:=condS_and h
      cases x with
      | true=>exact .inl ⟨by simp [hy],_,hr.know hT,h.1 rfl⟩
      | false=>exact .inr ⟨by simp [hy],_,hr.know hT,h.2 rfl⟩
     | false =>
      simp only [cond_false] at h
      replace h:=condS_and h
      cases x with
      | true=>exact .inr ⟨by simp [hy],_,hr.know hT,h.1 rfl⟩
      | false=>exact .inl ⟨by simp [hy],_,hr.know hT,h.2 rfl⟩
    | _=>exact h.elim
   | tp vs =>
    rw [hT] at h ht
    cases vs with
    | nil =>
     refine .inr ⟨?_,T,hr,h⟩
     dsimp only
     rw [hy]
     generalize hv:a.tmps.getD d undef=v at ht
     cases ht with
     | tp us _ hl _ =>
      cases hq:a.tmps[d]? with
      | none=>simp
      | some u =>
       rw [Array.getD_eq_getD_getElem?,hq] at hv
       simp at hv
       subst hv
       simp
    | cons _ _=>exact h.elim
   | _=>rw [hT] at h; exact h.elim
theorem about_true {ro:Option Nat} (o:Oper) (a:Act) (w:World):∀ f,o.about P w a.eval=some f→(Fw ro).fn f:=fun _ _=>trivial
theorem NOK.next {ro:Option Nat} {o:Oper} {a:Act} {k:AV→Hp→Prop} {Q:Exit→Act→World→Prop} {next:Act→World→Prop} (hd:∀ c,o.op≠.defer c) (h:NOK P X m w (execOp a.eval o) k)
  (hn:∀ v w' m' av H',V X m' w' v av→HRel X m' H' w'→Ext X m w m' w'→k av H'→next (a.put o.dst v) w'):o.wpIn (Fw ro) 0 P a w next Q:=by
 refine ⟨about_true o a w,?_⟩
 rw [Oper.semAt_eq _ _ _ hd]
 rcases h with ⟨v,w',m',av,H',hrun,h1,h2,h3,h4⟩ | ⟨f,args,hrun,hc⟩
 ·rcases hrun with hrun | ⟨hrun,rfl⟩
  ·rw [hrun]; exact hn v w' m' av H' h1 h2 h3 h4
  ·rw [hrun]; exact hn undef w' m' av H' h1 h2 h3 h4
 ·rw [hrun]
  refine ⟨fun h=>by simp [Fw] at h,?_⟩
  have hcalls:Calls P f args w _:=callsIn_wide.1 hc
  have hin:CallsIn (Fw ro) 0 P f args w _:=⟨trivial,fun cs hr=>by
   obtain ⟨e,w',fr,r,s,x⟩:=hcalls cs
   refine ⟨e,w',fr,r,?_,x⟩
   cases e with
   | returned v=>exact (stepsIn_wide (P:=P)).2 s
   | panicked c=>exact (stepsIn_wide (P:=P)).2 s
   | outgrown=>exact s⟩
  refine hin.mono ?_
  rintro e w' ⟨v,m',r,H',rfl,h1,h2,h3,h4⟩
  exact hn v w' m' r H' h1 h2 h3 h4
theorem stepP_nodefer {L:Lay} {op:Op} {T:Tp} {k:AV→Hp→Prop} (h:stepP P L op T H k):∀ c,op≠.defer c:=by
 rintro c rfl
 exact h
theorem put_defers {a:Act} {d:Option Tmp} {v:Value}:(a.put d v).defers=a.defers:=by cases d <;> rfl
theorem RunOps_ok [Inhabited DSt] {cx:Cx} {d0:List Deferred} (hL:LayOK P cx.L) {mb:Mp} {wb:World} (ops:Array Oper) {K:Tp→Hp→Prop} {Q:Exit→Act→World→Prop} (hQ:∀ m T H a w,a.defers=d0→Rel X mb wb cx.N m T H a w→K T H→Q .normal a w) :
  ∀ (os:List Oper) (i:Nat) (T:Tp) (H:Hp) (m:Mp) (a:Act) (w:World),a.defers=d0→ops.toList.drop i=os→RunOps P cx ops.toList os T H K→Rel X mb wb cx.N m T H a w→wpOpsIn (Fw cx.ro) 0 P ops Q (List.range' i os.length) a w
 | [],i,T,H,m,a,w,hdf,_,h,hr=>hQ m T H a w hdf hr h
 | o::os,i,T,H,m,a,w,hdf,hd,h,hr=>by
  have hoi:ops[i]?=some o:=by
   have:=congrArg (·[0]?) hd
   simpa using this
  have hdt:ops.toList.drop (i+1)=os:=by have:=congrArg List.tail hd; simpa using this
  rw [List.length_cons,List.range'_succ]
  simp only [wpOpsIn,hoi]
  simp only [RunOps] at h
  rcases guardK_ok h hr with ⟨hw,T',hr',h⟩ | ⟨hw,T',hr',h⟩
  ·rw [if_pos hw]
   refine NOK.next (stepP_nodefer h) (step_ok hL hr' o h) ?_
   intro v w' m' av H' h1 h2 h3 h4
   obtain ⟨T'',hr'',h5⟩:=putK_ok h4 hr' h3 h2 h1
   exact RunOps_ok hL ops hQ os (i+1) T'' H' m' _ w' (by rw [put_defers]; exact hdf) hdt h5 hr''
  ·rw [hw]
   simp only [Bool.false_eq_true,if_false]
   refine ⟨about_true o a w,?_⟩
   obtain ⟨T'',hr'',h5⟩:=putK_ok (u:=undef) h hr' (.refl _ _ _) hr'.heap (.tp #[] [] rfl (fun j v c h=>by simp at h))
   exact RunOps_ok hL ops hQ os (i+1) T'' H m _ w (by rw [put_defers]; exact hdf) hdt h5 hr''
/- Code. -/
abbrev Post:=Exit→Tp→Hp→Prop
@[irreducible] def Tr [Inhabited DSt] (P:Program) (cx:Cx) (c:Code) (T:Tp) (H:Hp) (Q:Post):Prop :=
 ∀ (X:Nat→Prop) (mb:Mp) (wb:World) (m:Mp) (a:Act) (w:World),mb.length=cx.F→Rel X mb wb cx.N m T H a w→c.wpX (Fw cx.ro) 0 P (fun e a w=>∃ m T H,Rel X mb wb cx.N m T H a w∧Q e T H) a w
@[irreducible] def DrawP [Inhabited DSt] (P:Program) (cx:Cx) (id:Nat) (ops:Array Oper) (T:Tp) (H:Hp) (K:Tp→Hp→Prop):Prop :=
 Tr P cx (.region id ops true) T H fun e T H=>match e with
  | .normal=>K T H
  | _=>False
@[irreducible] def LoopP [Inhabited DSt] (P:Program) (cx:Cx) (c:Code) (T:Tp) (H:Hp) (Q:Post):Prop:=Tr P cx (.loop c) T H Q
@[irreducible] def RangeP [Inhabited DSt] (P:Program) (cx:Cx) (f:Operand) (ps:Array Tmp) (as body:Code) (T:Tp) (H:Hp) (Q:Post):Prop:=Tr P cx (.rangeFunc f ps as body) T H Q
def Run [Inhabited DSt] (P:Program) (cx:Cx):Code→Tp→Hp→Post→Prop
 | .skip,T,H,Q=>Q .normal T H
 | .label _,T,H,Q=>Q .normal T H
 | .exit id,T,H,Q=>Q (.exit id) T H
 | .ret,T,H,Q=>Q .ret T H
 | .seq a b,T,H,Q=>Run P cx a T H fun e T H=>match e with
  | .normal=>Run P cx b T H Q
  | e=>Q e T H
 | .cond c x y,T,H,Q=>match opd T c with
  | .d (.b t)=>condS t (Run P cx x T H Q) (Run P cx y T H Q)
  | _=>False
 | .block id c,T,H,Q=>Run P cx c T H fun e T H=>match e with
  | .exit id'=>bif Nat.beq id' id then Q .normal T H else Q (.exit id') T H
  | e=>Q e T H
 | .region id ops draw,T,H,Q=>bif draw then DrawP P cx id ops T H fun T H=>Q .normal T H else RunOps P cx ops.toList ops.toList T H fun T H=>Q .normal T H
 | .loop c,T,H,Q=>LoopP P cx c T H Q
 | .rangeFunc f ps as body,T,H,Q=>RangeP P cx f ps as body T H Q
 | _,_,_,_=>False
theorem Run_ok [Inhabited DSt] {cx:Cx} (hL:LayOK P cx.L):∀ (c:Code) (T:Tp) (H:Hp) (Q:Post),Run P cx c T H Q→Tr P cx c T H Q:=by
 intro c
 induction c with
 | skip=>intro T H Q h; unfold Tr; exact fun X mb wb m a w hF hr=>wpX_skip ⟨m,T,H,hr,h⟩
 | label l=>intro T H Q h; unfold Tr; exact fun X mb wb m a w hF hr=>wpX_label ⟨m,T,H,hr,h⟩
 | exit id=>intro T H Q h; unfold Tr; exact fun X mb wb m a w hF hr=>wpX_exit ⟨m,T,H,hr,h⟩
 | ret=>intro T H Q h; unfold Tr; exact fun X mb wb m a w hF hr=>wpX_ret ⟨m,T,H,hr,h⟩
 | seq x y ihx ihy =>
  intro T H Q h
  have h1:=ihx T H _ h
  unfold Tr at h1 ⊢
  intro X mb wb m a w hF hr
  refine wpX_seq (wpX_mono (h1 X mb wb m a w hF hr) ?_)
  rintro e a w ⟨m,T,H,hr,hq⟩
  cases e with
  | normal =>
   have h2:=ihy T H Q hq
   unfold Tr at h2
   exact h2 X mb wb m a w hF hr
  | _=>exact ⟨m,T,H,hr,hq⟩
 | cond c x y ihx ihy =>
  intro T H Q h
  simp only [Run] at h
  cases hc:opd T c with
  | d v =>
   rw [hc] at h
   cases v with
   | b t =>
    dsimp only at h
    replace h:=condS_and h
    unfold Tr
    intro X mb wb m a w hF hr
    have ho:=opd_ok hr c
    rw [hc] at ho
    refine wpX_cond_split ho.bool (fun ht=>?_) (fun ht=>?_)
    ·have h2:=ihx T H Q (h.1 ht); unfold Tr at h2; exact h2 X mb wb m a w hF hr
    ·have h2:=ihy T H Q (h.2 ht); unfold Tr at h2; exact h2 X mb wb m a w hF hr
   | _=>exact h.elim
  | _=>rw [hc] at h; exact h.elim
 | block id c ih =>
  intro T H Q h
  have h1:=ih T H _ h
  unfold Tr at h1 ⊢
  intro X mb wb m a w hF hr
  refine wpX_block (wpX_mono (h1 X mb wb m a w hF hr) ?_)
  rintro e a w ⟨m,T,H,hr,hq⟩
  cases e with
  | exit id' =>
   simp only [Exit.inBlock]
   by_cases hid:id'=id
   ·subst hid
    simp only [Nat.beq_refl,cond_true] at hq
    rw [if_pos rfl]; exact ⟨m,T,H,hr,hq⟩
   ·have hb:Nat.beq id' id=false:=by
     cases hq:Nat.beq id' id with
     | false=>rfl
     | true=>exact absurd (Nat.eq_of_beq_eq_true hq) hid
    simp only [hb,cond_false] at hq
    rw [if_neg hid]; exact ⟨m,T,H,hr,hq⟩
  | _=>exact ⟨m,T,H,hr,hq⟩
 | region id ops draw =>
  intro T H Q h
  cases draw with
  | true =>
   simp only [Run,cond_true] at h
   unfold DrawP Tr at h
   unfold Tr
   intro X mb wb m a w hF hr
   refine wpX_mono (h X mb wb m a w hF hr) ?_
   rintro e a w ⟨m,T,H,hr,hq⟩
   cases e with
   | normal=>exact ⟨m,T,H,hr,hq⟩
   | _=>exact hq.elim
  | false =>
   simp only [Run,cond_false] at h
   unfold Tr
   intro X mb wb m a w hF hr
   refine wpX_region ?_
   have hrun:=RunOps_ok (Q:=fun e a w=>∃ m T H,Rel X mb wb cx.N m T H a w∧Q e T H) hL ops (d0:=a.defers) (fun m T H a w _ hr hk=>⟨m,T,H,hr,hk⟩) ops.toList 0 T H m a w rfl (by simp) h hr
   rw [List.range_eq_range']
   simpa using hrun
 | loop c=>intro T H Q h; simp only [Run] at h; unfold LoopP at h; exact h
 | rangeFunc f ps as body=>intro T H Q h; simp only [Run] at h; unfold RangeP at h; exact h
 | _=>intro T H Q h; exact h.elim
end Go.Abs
