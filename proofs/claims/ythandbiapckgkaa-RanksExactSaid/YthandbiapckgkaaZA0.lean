/- Code walked in the frame of a function that the program has: the kit's rules once more, with that known; rounds of a range over a function that panic. No condition. -/
import Derived.CallsIn
import Derived.LoopNIn
import Derived.OrdersIn
import Derived.RangeFuncIn
import Derived.RangeFuncLeaves
namespace Go.Abs
variable {F:Fence} {n:Nat} {P:Program} {Q:Exit→Act→World→Prop} {a:Act} {w:World}
def _root_.Go.Code.wpX (F:Fence) (n:Nat) (P:Program) (c:Code) (Q:Exit→Act→World→Prop) (a:Act) (w:World):Prop :=
 ∀ (b:Frame) (k:List Item) (cs:List Frame),b.roundOf=F.round→F.fn b.fn→F.room (cs.length+1+n)→(∃ fn,P.funcs[b.fn]?=some fn) →
  ∃ e a' w',Q e a' w'∧ArrivesIn (Machine.fenced P F) P (lone (b.atR a (.code c::k)) cs w) b k cs e a' w'
theorem wpX_of {c:Code} (h:c.wpIn F n P Q a w):c.wpX F n P Q a w:=fun b k cs hro hb hr _=>h b k cs hro hb hr
theorem wpX_mono {c:Code} {Q':Exit→Act→World→Prop} (h:c.wpX F n P Q a w) (hq:∀ e a w,Q e a w→Q' e a w):c.wpX F n P Q' a w :=
 fun b k cs hro hb hr hx=>let ⟨e,a',w',q,r⟩:=h b k cs hro hb hr hx; ⟨e,a',w',hq _ _ _ q,r⟩
theorem wpX_skip (h:Q .normal a w):Code.skip.wpX F n P Q a w:=wpX_of (wpIn_skip h)
theorem wpX_label {l:Nat} (h:Q .normal a w):(Code.label l).wpX F n P Q a w:=wpX_of (wpIn_label h)
theorem wpX_exit {id:Nat} (h:Q (.exit id) a w):(Code.exit id).wpX F n P Q a w:=wpX_of (wpIn_exit h)
theorem wpX_ret (h:Q .ret a w):Code.ret.wpX F n P Q a w:=wpX_of (wpIn_ret h)
theorem wpX_region {id:Nat} {ops:Array Oper} (h:wpOpsIn F n P ops Q (List.range ops.size) a w):(Code.region id ops false).wpX F n P Q a w:=wpX_of (wpIn_region h)
theorem wpX_region_any {id:Nat} {ops:Array Oper} (hm:P.follows .mixedOrders=true)
  (h:wpAnyIn F n P .any ops Q ops.size (Array.replicate ops.size false) a { w with drawn:=w.drawn+1 }):(Code.region id ops true).wpX F n P Q a w:=wpX_of (wpIn_region_any hm h)
theorem wpX_seq {x y:Code} (h:x.wpX F n P (Exit.then (y.wpX F n P Q) Q) a w):(Code.seq x y).wpX F n P Q a w:=by
 intro b k cs hro hb hr hf
 have h0:(lone (b.atR a (.code (.seq x y)::k)) cs w).fenced P F:=fenced_calm hb hr rfl
 obtain ⟨e,a₁,w₁,hq,harr⟩:=h b (.code y::k) cs hro hb hr hf
 cases e with
 | normal =>
  obtain ⟨e₂,a₂,w₂,hq₂,harr₂⟩:=hq b k cs hro hb hr hf
  exact ⟨e₂,a₂,w₂,hq₂,.of_steps (.head h0 stepR_seq harr) harr₂⟩
 | exit id=>exact ⟨_,a₁,w₁,hq,.of_steps (.one h0 stepR_seq) (.pass (x:=.code y) rfl (fun _ _=>.inl (by simp)) harr)⟩
 | goto l=>exact ⟨_,a₁,w₁,hq,.of_steps (.one h0 stepR_seq) (.pass (x:=.code y) rfl (fun _ _=>.inl (by simp)) harr)⟩
 | ret=>exact ⟨_,a₁,w₁,hq,.of_steps (.one h0 stepR_seq) (.pass (x:=.code y) rfl (fun _ _=>.inl (by simp)) harr)⟩
 | panic ch=>exact ⟨_,a₁,w₁,hq,.of_steps (.one h0 stepR_seq) (.pass (x:=.code y) rfl (fun _ _=>.inl (by simp)) harr)⟩
 | outgrown=>exact ⟨_,a₁,w₁,hq,.of_steps (.one h0 stepR_seq) (.pass (x:=.code y) rfl (fun _ _=>.inl (by simp)) harr)⟩
theorem wpX_cond {c:Operand} {x y:Code} {t:Bool} (hc:a.eval c=.bool t) (h:(if t then x else y).wpX F n P Q a w):(Code.cond c x y).wpX F n P Q a w :=
 fun b k cs hro hb hr hf=>let ⟨e,a',w',q,r⟩:=h b k cs hro hb hr hf; ⟨e,a',w',q,.of_steps (.one (fenced_calm hb hr rfl) (stepR_cond hc)) r⟩
theorem wpX_cond_split {c:Operand} {x y:Code} {t:Bool} (hc:a.eval c=.bool t) (ht:t=true→x.wpX F n P Q a w)
  (hf:t=false→y.wpX F n P Q a w):(Code.cond c x y).wpX F n P Q a w:=by
 cases t
 ·exact wpX_cond hc (hf rfl)
 ·exact wpX_cond hc (ht rfl)
theorem wpX_block {id:Nat} {c:Code} (h:c.wpX F n P (Exit.inBlock id Q) a w):(Code.block id c).wpX F n P Q a w:=by
 intro b k cs hro hb hr hf
 have h0:(lone (b.atR a (.code (.block id c)::k)) cs w).fenced P F:=fenced_calm hb hr rfl
 obtain ⟨e,a₁,w₁,hq,harr⟩:=h b (.inBlock id::k) cs hro hb hr hf
 cases e with
 | normal=>exact ⟨.normal,a₁,w₁,hq,.head h0 stepR_block (StepsIn.trans harr (.one (fenced_calm hb hr rfl) stepR_inBlock))⟩
 | exit id' =>
  by_cases hid:id'=id
  ·simp only [Exit.inBlock,hid,if_true] at hq
   exact ⟨.normal,a₁,w₁,hq,.head h0 stepR_block (harr.1 k (by simp [exitTo,hid]))⟩
  ·simp only [Exit.inBlock,hid,if_false] at hq
   have this:(id == id')=false:=by simp; exact fun h=>hid h.symm
   have hx:exitTo id' (.inBlock id::k)=exitTo id' k:=by simp [exitTo,this]
   exact ⟨.exit id',a₁,w₁,hq,fun k' hk=>.head h0 stepR_block (harr.1 k' (by rw [hx]; exact hk)),
    fun hr' hk=>let ⟨k₁,h1,h2⟩:=harr.2 hr' (by rw [hx]; exact hk); ⟨k₁,h1,.head h0 stepR_block h2⟩⟩
 | goto l =>
  have hx:gotoIn l (.inBlock id::k)=gotoIn l k:=by simp [gotoIn]
  exact ⟨_,a₁,w₁,hq,fun k' hk=>.head h0 stepR_block (harr.1 k' (by rw [hx]; exact hk)),
   fun hr' hk=>let ⟨k₁,h1,h2⟩:=harr.2 hr' (by rw [hx]; exact hk); ⟨k₁,h1,.head h0 stepR_block h2⟩⟩
 | ret=>exact ⟨_,a₁,w₁,hq,.of_steps (.one h0 stepR_block) harr⟩
 | panic ch=>exact ⟨_,a₁,w₁,hq,.of_steps (.one h0 stepR_block) harr⟩
 | outgrown=>exact ⟨_,a₁,w₁,hq,.of_steps (.one h0 stepR_block) harr⟩
def _root_.Go.Code.roundsX (F:Fence) (n:Nat) (P:Program) (c:Code) (Q:Exit→Act→World→Prop):Nat→Act→World→Prop
 | 0,_,_=>False
 | m+1,a,w=>c.wpX F n P (Exit.then (Code.roundsX F n P c Q m) Q) a w
theorem roundsX_succ {c:Code} {m:Nat}:Code.roundsX F n P c Q (m+1) a w=c.wpX F n P (Exit.then (Code.roundsX F n P c Q m) Q) a w:=rfl
theorem wpX_loop_rounds {c:Code} (m:Nat) (h:Code.roundsX F n P c Q m a w):(Code.loop c).wpX F n P Q a w:=by
 intro b k cs hro hb hr hf
 have key:∀ m a w,Code.roundsX F n P c Q m a w →
   ∃ e a' w',Q e a' w'∧ArrivesIn (Machine.fenced P F) P (lone (b.atR a (.code c::.inLoop c::k)) cs w) b k cs e a' w':=by
  intro m
  induction m with
  | zero=>intro a w h; exact h.elim
  | succ m ih =>
   intro a w h
   obtain ⟨e,a₁,w₁,hq,harr⟩:=h b (.inLoop c::k) cs hro hb hr hf
   cases e with
   | normal =>
    obtain ⟨e₂,a₂,w₂,hq₂,harr₂⟩:=ih a₁ w₁ hq
    exact ⟨e₂,a₂,w₂,hq₂,.of_steps (StepsIn.trans harr (.one (fenced_calm hb hr rfl) stepR_inLoop)) harr₂⟩
   | exit id=>exact ⟨_,a₁,w₁,hq,.pass (x:=.inLoop c) rfl (fun _ _=>.inl (by simp)) harr⟩
   | goto l=>exact ⟨_,a₁,w₁,hq,.pass (x:=.inLoop c) rfl (fun _ _=>.inl (by simp)) harr⟩
   | ret=>exact ⟨_,a₁,w₁,hq,.pass (x:=.inLoop c) rfl (fun _ _=>.inl (by simp)) harr⟩
   | panic ch=>exact ⟨_,a₁,w₁,hq,.pass (x:=.inLoop c) rfl (fun _ _=>.inl (by simp)) harr⟩
   | outgrown=>exact ⟨_,a₁,w₁,hq,.pass (x:=.inLoop c) rfl (fun _ _=>.inl (by simp)) harr⟩
 obtain ⟨e,a',w',hq,harr⟩:=key m a w h
 exact ⟨e,a',w',hq,.of_steps (.one (fenced_calm hb hr rfl) stepR_loop) harr⟩
def roundPostX (F:Fence) (n:Nat) (P:Program) (f:FuncId) (l:Nat) (R:Ending→World→Prop):Exit→Act→World→Prop
 | .panic ch,a,w=>∃ fn,P.funcs[f]?=some fn∧LeavesInM (F.inRound l) n P fn a.tmps R a.defers (.panicking ch) w
 | e,a,w=>roundPost P l R e a w
theorem roundIn_of_wpX {l:Nat} {f:FuncId} {tmps:Array Value} {assign body:Code} {w:World} {R:Ending→World→Prop} (hF:F.fn f) (hfn:∃ fn,P.funcs[f]?=some fn)
  (h:assign.wpX (F.inRound l) n P (Exit.then (fun a₁ w₁=>∃ w₂,(Instr.beginRound l).run P w₁=.ok () w₂∧body.wpX (F.inRound l) n P (roundPostX F n P f l R) a₁ w₂) (fun _ _ _=>False))
   { tmps:=tmps,defers:=[] } w) :
  RoundIn F n P l f tmps assign body w R:=by
 refine ⟨hF,fun c cs hr=>?_⟩
 let b:Frame:={ (default:Frame) with fn:=f,kind:=.normal,roundOf:=some l }
 have hb0:Frame.round l f tmps assign body .normal=b.atR { tmps:=tmps,defers:=[] } [.code assign,.beginRound,.code body]:=by
  simp [Frame.round,Frame.atR,b]
 have hr':(F.inRound l).room ((c::cs).length+1+n):=hr
 have hF':(F.inRound l).fn b.fn:=hF
 obtain ⟨e,a₁,w₁,hq,harr⟩:=h b [.beginRound,.code body] (c::cs) rfl hF' hr' hfn
 rw [← hb0] at harr
 cases e with
 | normal =>
  obtain ⟨w₂,hbr,hbody⟩:=hq
  have s1:StepsIn (Machine.fenced P (F.inRound l)) P (lone (b.atR a₁ [.beginRound,.code body]) (c::cs) w₁) (lone (b.atR a₁ [.code body]) (c::cs) w₂) :=
   .one (fenced_calm (fr:=b.atR a₁ [.beginRound,.code body]) hF' hr' rfl) (stepR_beginRound rfl hbr)
  obtain ⟨e₂,a₂,w₃,hq₂,harr₂⟩:=hbody b [] (c::cs) rfl hF' hr' hfn
  cases e₂ with
  | normal =>
   obtain ⟨v,w₄,hend,hR⟩:=hq₂
   exact ⟨.returned v,w₄,hR,(StepsIn.trans harr s1).trans (StepsIn.trans harr₂ (.one (fenced_calm (fr:=b.atR a₂ []) hF' hr' rfl) (stepR_round_end rfl rfl hend)))⟩
  | ret =>
   obtain ⟨v,w₄,hend,hR⟩:=hq₂
   obtain ⟨k₁,hs⟩:=harr₂.2 rfl
   exact ⟨.returned v,w₄,hR,(StepsIn.trans harr s1).trans (StepsIn.trans hs (.one (fenced_calm (fr:=b.atR a₂ (.code .ret::k₁)) hF' hr' rfl) (stepR_round_ret rfl rfl hend)))⟩
  | exit id =>
   obtain ⟨v,w₄,hend,hR⟩:=hq₂
   obtain ⟨k₁,hk,hs⟩:=harr₂.2 rfl rfl
   exact ⟨.returned v,w₄,hR,(StepsIn.trans harr s1).trans (StepsIn.trans hs (.one (fenced_calm (fr:=b.atR a₂ (.code (.exit id)::k₁)) hF' hr' rfl) (stepR_round_exit rfl rfl hk hend)))⟩
  | goto t =>
   obtain ⟨v,w₄,hend,hR⟩:=hq₂
   obtain ⟨k₁,hk,hs⟩:=harr₂.2 rfl rfl
   exact ⟨.returned v,w₄,hR,(StepsIn.trans harr s1).trans (StepsIn.trans hs (.one (fenced_calm (fr:=b.atR a₂ (.code (.goto t)::k₁)) hF' hr' rfl) (stepR_round_goto rfl rfl hk hend)))⟩
  | panic chain =>
   obtain ⟨fx,hfx,hL⟩:=hq₂
   obtain ⟨todo,hs⟩:=harr₂
   obtain ⟨e',w₄,fr',hR,hs',hfr,hlv⟩:=leaves_stepsInM a₂.defers (.panicking chain) w₃ { b.atR a₂ todo with mode:=.panicking chain } (c::cs) rfl rfl rfl hfx rfl hF' hr' hL
   have s2:=(StepsIn.trans harr s1).trans hs
   cases e' with
   | returned v=>exact ⟨.returned v,w₄,hR,s2.trans (StepsIn.trans hs' (.one (fenced_leaving (F:=F.inRound l) (n:=n) (hfr ▸ hF') hr' hlv) (step_leave_returned hlv)))⟩
   | panicked ch=>exact ⟨.panicked ch,w₄,hR,s2.trans (StepsIn.trans hs' (.one (fenced_leaving (F:=F.inRound l) (n:=n) (hfr ▸ hF') hr' hlv) (step_leave_panicked hlv)))⟩
   | outgrown=>exact ⟨.outgrown,w₄,hR,Outgrown.of_steps s2.steps hs'⟩
  | outgrown=>exact hq₂.elim
 | exit id=>exact hq.elim
 | goto t=>exact hq.elim
 | ret=>exact hq.elim
 | panic chain=>exact hq.elim
 | outgrown=>exact hq.elim
theorem wpX_rangeFunc {g:Operand} {ps:Array Tmp} {assign body:Code} {Q:Exit→Act→World→Prop} {a:Act} {w:World}
  (h:∀ fn,F.fn fn→(∃ x,P.funcs[fn]?=some x)→∃ (l:Nat) (mark:List Deferred) (w₁:World) (d:Deferred) (w₁':World) (f:FuncId) (args:Array Value) (w₂:World),
   (Instr.enterLoop fn a.tmps ps assign body F.round).run P w=.ok (l,mark) w₁ ∧
   (resolve a.eval (rangeCall g l) 0).run P w₁=.ok d w₁' ∧
   (∀ f',Target.leads P w₁' d.target d.args=some f'→F.fn f') ∧
   (invoke d.target d.args).run P w₁'=.ok (.enter f args) w₂ ∧
   (F.depth.isSome=true→1≤n) ∧
   CallsIn F (n - 1) P f args w₂ (rangePost F n P l Q { a with defers:=mark++a.defers })) :
  (Code.rangeFunc g ps assign body).wpX F n P Q a w:=by
 intro b k cs hro hb hr hfb
 obtain ⟨l,mark,w₁,d,w₁',f,args,w₂,he,hres,hlead,hinv,hn,hF,hcall⟩:=h b.fn hb hfb
 rw [← hro] at he
 have h0:(lone (b.atR a (.code (.rangeFunc g ps assign body)::k)) cs w).fenced P F:=by
  refine fenced_lone (.inl hb) (fun f' hf'=>hlead f' ?_) (Fence.room_le hr (by omega))
  have hev:=Frame.eval_atR b a (.code (.rangeFunc g ps assign body)::k)
  simp only [Frame.atR] at hev
  simp only [Frame.about,Frame.atR,he,hev,hres] at hf'
  exact hf'
 have henter:=stepR_rangeFunc (P:=P) (b:=b) (a:=a) (k:=k) (cs:=cs) (w:=w) he hres hinv
 have hroom:F.room ((b.atR { a with defers:=mark++a.defers } (.inRangeFunc l::k)::cs).length+1+(n - 1)):=Fence.room_enter hr hn
 obtain ⟨e,w₃,fr,hR,hsteps,hfn,hleave⟩:=hcall (b.atR { a with defers:=mark++a.defers } (.inRangeFunc l::k)::cs) hroom
 cases e with
 | outgrown =>
  obtain ⟨a₀,w₀,hq⟩:=hR
  exact ⟨.outgrown,a₀,w₀,hq,.inr (Outgrown.of_steps (.one henter) hsteps)⟩
 | returned v =>
  have hl:(lone fr (b.atR { a with defers:=mark++a.defers } (.inRangeFunc l::k)::cs) w₃).fenced P F:=fenced_leaving (hfn ▸ hF) hroom hleave
  obtain ⟨jump,w₄,hend,hj⟩:=hR
  have sback:StepsIn (Machine.fenced P F) P (lone (b.atR a (.code (.rangeFunc g ps assign body)::k)) cs w) (lone (b.atR { a with defers:=mark++a.defers } ((jump.map Item.code).toList++k)) cs w₄):=by
   refine .head h0 henter (StepsIn.trans hsteps (.head hl ?_ (.one (fenced_calm (fr:=b.atR { a with defers:=mark++a.defers } (.endRangeFunc l::k)) hb hr rfl) (stepR_endRangeFunc hend))))
   rw [← finish_atR_inRangeFunc l v]; exact step_leave_returned hleave
  cases jump with
  | none=>exact ⟨.normal,_,w₄,hj,sback⟩
  | some c =>
   obtain ⟨e',a'',w₅,hq,harr⟩:=hj b k cs hro hb hr
   exact ⟨e',a'',w₅,hq,.of_steps sback harr⟩
 | panicked chain =>
  have hl:(lone fr (b.atR { a with defers:=mark++a.defers } (.inRangeFunc l::k)::cs) w₃).fenced P F:=fenced_leaving (hfn ▸ hF) hroom hleave
  refine ⟨.panic chain,_,w₃,hR,.inRangeFunc l::k,.head h0 henter (StepsIn.trans hsteps (.one hl ?_))⟩
  rw [← Frame.raise_atR]; exact step_leave_panicked hleave
theorem callsIn_of_wpX {f:FuncId} {fn:Func} {c:Code} {args:Array Value} {w:World} {R:Ending→World→Prop}
  (hf:P.funcs[f]?=some fn) (hb:fn.body=some c) (hF:F.fn f)
  (h:c.wpX F n P (bodyPost P fn R) { tmps:=args++Array.replicate (fn.ntmps - args.size) undef,defers:=[] } w) (hro:F.round=none:=by rfl) :
  CallsIn F n P f args w R:=by
 refine ⟨hF,fun cs hr=>?_⟩
 let b:Frame:={ (default:Frame) with fn:=f,kind:=.normal,roundOf:=none }
 have henter:Frame.enter P f args .normal =
   b.atR { tmps:=args++Array.replicate (fn.ntmps - args.size) undef,defers:=[] } [.code c]:=by
  simp [Frame.enter,Frame.atR,hf,hb,b]
 obtain ⟨e,a',w',hq,harr⟩:=h b [] cs hro.symm hF hr ⟨fn,hf⟩
 rw [← henter] at harr
 cases e with
 | normal =>
  obtain ⟨hd,v,hr',hR⟩:=hq
  exact ⟨.returned v,w',_,hR,StepsIn.trans harr (.one (fenced_calm (fr:=b.atR a' []) hF hr rfl) (stepR_end rfl)),rfl,rfl,hd,rfl,fn,hf,hr'⟩
 | ret =>
  obtain ⟨hd,v,hr',hR⟩:=hq
  obtain ⟨todo,hs⟩:=harr.1 rfl
  exact ⟨.returned v,w',_,hR,hs,rfl,rfl,hd,rfl,fn,hf,hr'⟩
 | panic chain =>
  obtain ⟨hd,hR⟩:=hq
  obtain ⟨todo,hs⟩:=harr
  exact ⟨.panicked chain,w',_,hR,hs,rfl,rfl,hd,fn,hf⟩
 | exit id=>exact hq.elim
 | goto l=>exact hq.elim
 | outgrown=>exact ⟨.outgrown,w',b,hq,harr.resolve_left (by simp [b]),rfl,trivial⟩
theorem callsIn_of_wpX_marks {f:FuncId} {fn:Func} {c:Code} {args:Array Value} {w:World} {R:Ending→World→Prop}
  (hf:P.funcs[f]?=some fn) (hb:fn.body=some c) (hF:F.fn f)
  (h:c.wpX F n P (bodyPostM F n P fn R) { tmps:=args++Array.replicate (fn.ntmps - args.size) undef,defers:=[] } w) (hro:F.round=none:=by rfl):CallsIn F n P f args w R:=by
 refine ⟨hF,fun cs hr=>?_⟩
 let b:Frame:={ (default:Frame) with fn:=f,kind:=.normal,roundOf:=none }
 have henter:Frame.enter P f args .normal =
   b.atR { tmps:=args++Array.replicate (fn.ntmps - args.size) undef,defers:=[] } [.code c]:=by
  simp [Frame.enter,Frame.atR,hf,hb,b]
 obtain ⟨e,a',w',hq,harr⟩:=h b [] cs hro.symm hF hr ⟨fn,hf⟩
 rw [← henter] at harr
 cases e with
 | normal =>
  obtain ⟨e',w'',fr',hR,hs,hfn,hl⟩:=leaves_stepsInM a'.defers .returning w' { b.atR a' [] with mode:=.returning } cs rfl rfl rfl hf rfl hF hr hq
  exact ⟨e',w'',fr',hR,ComesIn.of_steps (StepsIn.trans harr (.one (fenced_calm (fr:=b.atR a' []) hF hr rfl) (stepR_end rfl))) hs,hfn,hl⟩
 | ret =>
  obtain ⟨todo,hs₀⟩:=harr.1 rfl
  obtain ⟨e',w'',fr',hR,hs,hfn,hl⟩:=leaves_stepsInM a'.defers .returning w' { b.atR a' todo with mode:=.returning } cs rfl rfl rfl hf rfl hF hr hq
  exact ⟨e',w'',fr',hR,ComesIn.of_steps hs₀ hs,hfn,hl⟩
 | panic chain =>
  obtain ⟨todo,hs₀⟩:=harr
  obtain ⟨e',w'',fr',hR,hs,hfn,hl⟩:=leaves_stepsInM a'.defers (.panicking chain) w' { b.atR a' todo with mode:=.panicking chain } cs rfl rfl rfl hf rfl hF hr hq
  exact ⟨e',w'',fr',hR,ComesIn.of_steps hs₀ hs,hfn,hl⟩
 | exit id=>exact hq.elim
 | goto l=>exact hq.elim
 | outgrown=>exact ⟨.outgrown,w',b,hq,harr.resolve_left (by simp [b]),rfl,trivial⟩
end Go.Abs
