/- Functions with one deferred closure that may recover. No condition. -/
import Derived.Test.YthandbiapckgkaaZB12
import Derived.RecoverIn
namespace Go.Abs
variable {P:Program} {X X':Nat→Prop} {m m':Mp} {H:Hp} {w w':World}
theorem TrE.draw {cx:Cx} (hL:LayOK P cx.L) (hm:P.follows .mixedOrders=true) {id:Nat} {ops:Array Oper} {T:Tp} {H:Hp} {Q:Post} (W:List (Nat × Nat)) (σ:List (Nat × Nat))
  (hok:(Nat.beq σ.length ops.size && (tailB ops (Array.replicate ops.size true) && okSeqP W ops (Array.replicate ops.size true) σ (Array.replicate ops.size false)) && (Region.ready .any ops (Array.replicate ops.size true)).isEmpty)=true) (h:SeqQ P cx W ops σ T H fun T H=>Q .normal T H):TrE P cx (.region id ops true) T H Q:=by
 simp only [Bool.and_eq_true] at hok
 obtain ⟨⟨k1,k2,k3⟩,k4⟩:=hok
 unfold TrE
 intro X mb wb m a w hF hr hd
 refine wpIn_region_any hm ?_
 have hl:=Nat.eq_of_beq_eq_true k1
 have key:=AnyZ.sound (ds:=[]) (ro:=cx.ro) (rest:=0) (mb:=mb) (wb:=wb) (Q:=fun e a w=>a.defers=[]∧∃ m T H,Rel X mb wb cx.N m T H a w∧Q e T H) hL (Z:=fun T H=>Q .normal T H) (W:=W) (fun m T H a w hd hr hk=>⟨by simpa using k4,hd,m,T,H,hr,hk⟩) σ.length (Array.replicate ops.size false) T H m a _ hd
  (SeqQ.anyZ k2 σ (Array.replicate ops.size false) T H (fun j oj _ hl=>by rw [Array.getD_eq_getD_getElem?] at hl; simp [Array.getElem?_replicate] at hl; split at hl <;> simp at hl) k3 h) (hr.drew (w.drawn+1))
 rw [Nat.zero_add,hl] at key
 exact key
theorem TrE.cond {cx:Cx} {c:Operand} {x y:Code} {T:Tp} {H:Hp} {Q:Post} (h:bK (opd T c) fun t=>condS t (TrE P cx x T H Q) (TrE P cx y T H Q)):TrE P cx (.cond c x y) T H Q:=by
 unfold bK at h
 split at h
 ·rename_i t hc
  replace h:=condS_and h
  unfold TrE at h ⊢
  intro X mb wb m a w hF hr hd
  have ho:=opd_ok hr c
  rw [hc] at ho
  exact wpIn_cond_split ho.bool (fun ht=>h.1 ht X mb wb m a w hF hr hd) (fun ht=>h.2 ht X mb wb m a w hF hr hd)
 ·exact h.elim
theorem TrE.skip {cx:Cx} {T:Tp} {H:Hp} {Q:Post} (h:Q .normal T H):TrE P cx .skip T H Q:=by
 unfold TrE
 intro X mb wb m a w hF hr hd
 exact wpIn_skip ⟨hd,m,T,H,hr,h⟩
theorem TrE.ret {cx:Cx} {T:Tp} {H:Hp} {Q:Post} (h:Q .ret T H):TrE P cx .ret T H Q:=by
 unfold TrE
 intro X mb wb m a w hF hr hd
 exact wpIn_ret ⟨hd,m,T,H,hr,h⟩
theorem TrE.mono {cx:Cx} {c:Code} {T:Tp} {H:Hp} {Q Q':Post} (h:TrE P cx c T H Q) (hq:∀ e T H,Q e T H→Q' e T H):TrE P cx c T H Q':=by
 unfold TrE at h ⊢
 intro X mb wb m a w hF hr hd
 refine wpIn_mono (h X mb wb m a w hF hr hd) ?_
 rintro e a w ⟨hd,m,T,H,hr,h⟩
 exact ⟨hd,m,T,H,hr,hq _ _ _ h⟩
theorem TrE.cutQ1 {cx:Cx} {A:Code} {T:Tp} {H:Hp} {Q:Post} (Tc:Tp) (Hc:Hp)
  (hA:TrE P cx A T H fun e T' H'=>match e with
   | .normal=>@Wk ds0 cx.F T' H' Tc Hc
   | e=>Q e T' H')
  (hB:∀ T' H',@Wk ds0 cx.F T' H' Tc Hc→Q .normal T' H'):TrE P cx A T H Q:=by
 refine hA.mono ?_
 rintro e T' H' h
 cases e with
 | normal=>exact hB T' H' h
 | _=>exact h
theorem TrE.weak {cx:Cx} {c:Code} {T T':Tp} {H H':Hp} {Q:Post} (hw:@Wk ds0 cx.F T H T' H') (h:TrE P cx c T' H' Q):TrE P cx c T H Q:=by
 unfold TrE at h ⊢
 unfold Wk at hw
 intro X mb wb m a w hF hr hd
 obtain ⟨m',hr',_⟩:=hw X mb wb cx.N m a w hF hr
 exact h X mb wb m' a w hF hr' hd
def RetP (X:Nat→Prop) (mb:Mp) (wb:World) (R:List AV→Hp→Prop):Ending→World→Prop:=fun e w'=>∃ v m' vs H',e=.returned v∧V X m' w' v (retV vs)∧HRel X m' H' w'∧Ext X mb wb m' w'∧R vs H'
@[irreducible] def TrF (P:Program) (cx:Cx) (fn:Func) (c:Code) (T:Tp) (H:Hp) (R:List AV→Hp→Prop):Prop :=
 ∀ (X:Nat→Prop) (mb:Mp) (wb:World) (m:Mp) (a:Act) (w:World),mb.length=cx.F→@Rel ds0 X mb wb cx.N m T H a w→a.defers=[]→c.wpX (Fw cx.ro) 0 P (bodyPostM Fence.wide 0 P fn (RetP X mb wb R)) a w
theorem ends_ok {L:Lay} (hL:LayOK P L) {fn:Func} {mb:Mp} {wb:World} {T:Tp} {tmps:Array Value} {R:List AV→Hp→Prop} (hT:∀ t,V X m w (tmps.getD t undef) (getT T t)) (hh:HRel X m H w) (hx:Ext X mb wb m w) (h:resK L T H fn.results.toList fun vs=>R vs H):LeavesInM Fence.wide 0 P fn tmps (RetP X mb wb R) [] .returning w:=by
 obtain ⟨v,avs,g1,g2,g3⟩:=results_ok (fn:=fn) hL hT hh h
 exact ⟨v,g1,v,m,avs,H,rfl,g2,hh,hx,g3⟩
theorem TrF.seq {cx:Cx} (hL:LayOK P cx.L) {fn:Func} {A B:Code} {T:Tp} {H:Hp} {R:List AV→Hp→Prop} (h:TrE P cx A T H fun e T H=>match e with
  | .normal=>TrF P cx fn B T H R
  | .ret=>resK cx.L T H fn.results.toList fun vs=>R vs H
  | _=>False):TrF P cx fn (.seq A B) T H R:=by
 unfold TrE at h
 unfold TrF
 intro X mb wb m a w hF hr hd
 refine wpX_seq (wpX_mono (wpX_of (h X mb wb m a w hF hr hd)) ?_)
 rintro e a w ⟨hd,m,T,H,hr,hq⟩
 cases e with
 | normal=>unfold TrF at hq; exact hq X mb wb m a w hF hr hd
 | ret =>
  show LeavesInM Fence.wide 0 P fn a.tmps _ a.defers .returning w
  rw [hd]
  exact ends_ok hL hr.tmp hr.heap hr.ext hq
 | _=>exact hq.elim
@[irreducible] def DefR (P:Program) (g:FuncId) (κs:List Nat) (H:Hp):Prop :=
 ∀ (X:Nat→Prop) (m:Mp) (caps:Array Value) (w:World),caps.size=κs.length→(∀ (j:Nat) v κ,caps[j]?=some v→κs[j]?=some κ→V X m w v (.pt κ 0))→HRel X m H w →
  CallsDIn Fence.wide 0 P g caps .returning w fun e u' w'=>(∃ v,e=.returned v)∧u'=.returning∧∃ m',HRel X m' H w'∧Ext X m w m' w'
@[irreducible] def DefP (P:Program) (g:FuncId) (κs:List Nat) (pv:Value) (H:Hp) (K:Hp→Prop):Prop :=
 ∀ (X:Nat→Prop) (m:Mp) (caps:Array Value) (w:World),caps.size=κs.length→(∀ (j:Nat) v κ,caps[j]?=some v→κs[j]?=some κ→V X m w v (.pt κ 0))→HRel X m H w →
  CallsDIn Fence.wide 0 P g caps (.panicking (pch pv)) w fun e u' w'=>(∃ v,e=.returned v)∧u'=.panicking [{ v:=pv,recovered:=true }]∧∃ m' H',HRel X m' H' w'∧Ext X m w m' w'∧K H'
def EndDf (P:Program) (L:Lay) (fn:Func) (g:FuncId) (κs:List Nat) (R:List AV→Hp→Prop):Post:=fun e T H=>match e with
 | .normal | .ret=>DefR P g κs H∧resK L T H fn.results.toList fun vs=>R vs H
 | .panic ch=>∃ pv,ch=pch pv∧DefP P g κs pv H fun H3=>resK L T H3 fn.results.toList fun vs=>R vs H3
 | _=>False
theorem TrF.defer {cx : Cx} (hL : LayOK P cx.L) (hro : cx.ro = none) {fn : Func} {id : Nat} {o1 o2 : Oper} {B : Code} {T : Tp} {H : Hp} {R : List AV → Hp → Prop} (g : FuncId) (κs : List Nat) (d : Nat) {ts : Array TypeId}
    (g1 : o1.guard = none) (d1 : o1.dst = some d) (hd : Nat.blt d cx.N = true) (h1 : stepP P cx.L o1.op T H fun v H' => v = .fn g (κs.map fun κ => .pt κ 0) ∧ H' = H)
    (g2 : o2.guard = none) (d2 : o2.dst = none) (h2 : o2.op = .defer ⟨.value (.tmp d), #[], ts⟩) (hg : EnterOK P g)
    (h : ∀ I : Inhabited DSt, @Tr I P { cx with F := H.length } B ((d, .fn g (κs.map fun κ => .pt κ 0)) :: T) H (EndDf P cx.L fn g κs R)) : TrF P cx fn (.seq (.region id #[o1, o2] false) B) T H R := by
  unfold TrF
  intro X mb wb m a w hF hr hd0
  refine wpX_seq (wpX_region ?_)
  show wpOpsIn (Fw cx.ro) 0 P #[o1, o2] _ [0, 1] a w
  have w1 : ∀ ys, Region.wanted o1 ys = true := fun ys => by simp [Region.wanted, g1]
  have w2 : ∀ ys, Region.wanted o2 ys = true := fun ys => by simp [Region.wanted, g2]
  have e0 : (#[o1, o2] : Array Oper)[0]? = some o1 := rfl
  have e1 : (#[o1, o2] : Array Oper)[1]? = some o2 := rfl
  simp only [wpOpsIn, e0, e1, w1, w2, if_true]
  refine NOK.next (stepP_nodefer h1) (step_ok hL hr o1 h1) ?_
  rintro v w' m' av H' hV hH hX ⟨rfl, rfl⟩
  rw [d1]
  have hr1 := hr.put hX hH hV (show d < cx.N by simpa [Nat.blt_eq] using hd)
  have hu := opd_ok hr1 (.tmp d)
  have hdf : (a.put (some d) v).defers = [] := by rw [put_defers]; exact hd0
  generalize ha1 : a.put (some d) v = a1 at hr1 hu hdf
  have hT : opd ((d, AV.fn g (κs.map fun κ => AV.pt κ 0)) :: T) (.tmp d) = AV.fn g (κs.map fun κ => AV.pt κ 0) := by simp [opd, getT]
  rw [hT] at hu
  generalize hue : a1.eval (.tmp d) = u at hu
  cases hu with
  | fn _ vs _ hl hc =>
  obtain ⟨dst2, op2, ty2, pos2, after2, guard2⟩ := o2
  dsimp only at g2 d2 h2
  subst g2 d2 h2
  have hrun : (Oper.semAt (Fw cx.ro).round a1.eval ⟨none, .defer ⟨.value (.tmp d), #[], ts⟩, ty2, pos2, after2, none⟩).run P w' = .ok (.defer { target := .fn (.func g) vs, args := #[] }) w' := by
    rw [show (Fw cx.ro).round = none from hro, Oper.semAt_none]
    simp [execOp, resolve, Deferred.ofValue, hue]
  refine ⟨about_true _ _ _, ?_⟩
  rw [hrun, Oper.uponIn_defer]
  generalize hD : ({ target := .fn (.func g) vs, args := #[] } : Deferred) = D
  have hdd : ({ a1 with defers := D :: a1.defers }.put none undef).defers = [D] := by
    show D :: a1.defers = [D]
    rw [hdf]
  have hr2 : @Rel ⟨⟨[D]⟩⟩ X m' w' cx.N m' ((d, AV.fn g (κs.map fun κ => AV.pt κ 0)) :: T) H' ({ a1 with defers := D :: a1.defers }.put none undef) w' :=
    @Rel.mk ⟨⟨[D]⟩⟩ _ _ _ _ _ _ _ _ _ (.refl _ _ _) hr1.size hr1.tmp hr1.heap ⟨[], hdd, List.nodup_nil, fun D h => by cases h⟩
  have hB := h ⟨⟨[D]⟩⟩
  unfold Tr at hB
  show B.wpX (Fw cx.ro) 0 P _ _ w'
  refine wpX_mono (hB X m' w' m' _ w' (by rw [hH.len]) hr2) ?_
  rintro e a2 w2' ⟨m2, T2, H2, hr3, hq⟩
  obtain ⟨x1, _, x3, x4, ms, hdm, nd, hdp⟩ := hr3
  replace hdm : a2.defers = marks ms ++ [D] := hdm
  have hlen : vs.size = κs.length := by simpa using hl
  obtain ⟨fg, cg, hg1, hg2, hg3⟩ := hg
  have hinv : ∀ w, (invoke D.target D.args).run P w = .ok (.enter g vs) w := fun w => by
    subst hD
    simp [invoke, callFunc, hg1, hg2, beq_eq_false_iff_ne.1 hg3]
  have hcap : ∀ {w3 : World}, Calm m2 w2' w3 → ∀ (j : Nat) v κ, vs[j]? = some v → κs[j]? = some κ → V X m2 w3 v (.pt κ 0) := fun {w3} hc3 j v κ hv hκ => ((hc j v (.pt κ 0) hv (by simp [hκ])).ext x1).calm hc3
  have leave : ∀ (u : FrameMode) (Rr : Ending → FrameMode → World → Prop), u ≠ .run → (∀ w3, Calm m2 w2' w3 → Ext X m' w' m2 w3 → CallsDIn Fence.wide 0 P g vs u w3 fun
          | .returned _, u', w' => LeavesInM Fence.wide 0 P fn a2.tmps (RetP X mb wb R) [] (settle u') w'
          | .panicked chain, u', w' => LeavesInM Fence.wide 0 P fn a2.tmps (RetP X mb wb R) [] (raised u' chain) w'
          | .outgrown, _, w' => RetP X mb wb R .outgrown w') → LeavesInM Fence.wide 0 P fn a2.tmps (RetP X mb wb R) a2.defers u w2' := by
    intro u _ hu hcd
    rw [hdm]
    refine leaves_marksD hu (fun w3 hc3 hx3 => ?_) ms nd (fun D hD => ⟨(hdp D hD).1.1, (hdp D hD).2⟩) x1
    refine ⟨hu, .inr ⟨fun h => by simp [Fence.wide] at h, .func g, vs, g, vs, by rw [← hD], hinv w3, fun _ _ => trivial, ?_⟩⟩
    exact hcd w3 hc3 hx3
  have hxx : Ext X mb wb m' w' := hr.ext.trans hX
  have fin : DefR P g κs H2 ∧ (resK cx.L T2 H2 fn.results.toList fun vs => R vs H2) → LeavesInM Fence.wide 0 P fn a2.tmps (RetP X mb wb R) a2.defers .returning w2' := by
    rintro ⟨hq1, hq2⟩
    unfold DefR at hq1
    refine leave _ (fun _ _ _ => True) (by simp) fun w3 hc3 hx3 => (hq1 X m2 vs w3 hlen (hcap hc3) (x4.calm hc3)).mono ?_
    rintro e u' w4 ⟨⟨v, rfl⟩, rfl, m4, hh4, hx4⟩
    exact ends_ok hL (fun t => ((x3 t).calm hc3).ext hx4) hh4 ((hxx.trans hx3).trans hx4) hq2
  cases e with
  | normal => exact fin hq
  | ret => exact fin hq
  | panic ch =>
    obtain ⟨pv, rfl, hq⟩ := hq
    unfold DefP at hq
    refine leave (.panicking (pch pv)) (fun _ _ _ => True) (by simp) fun w3 hc3 hx3 => (hq X m2 vs w3 hlen (hcap hc3) (x4.calm hc3)).mono ?_
    rintro e u' w4 ⟨⟨v, rfl⟩, rfl, m4, H4, hh4, hx4, hk⟩
    exact ends_ok hL (fun t => ((x3 t).calm hc3).ext hx4) hh4 ((hxx.trans hx3).trans hx4) hk
  | _ => exact hq.elim
theorem DefP.of_tr {cx:Cx} (hL:LayOK P cx.L) (hro:cx.ro=none) {g:FuncId} {fn:Func} {id:Nat} {o1 o2:Oper} {B:Code} (hf:P.funcs[g]?=some fn) (hb:fn.body=some (.seq (.region id #[o1,o2] false) B)) (hN:cx.N=fn.ntmps) (hF:cx.F=H.length) {κs:List Nat} {pv:Value} {K:Hp→Prop} (hlen:κs.length≤fn.ntmps) (d d':Nat)
  (g1:o1.guard=none) (d1:o1.dst=some d) (op1:o1.op=.call ⟨.builtin .recover,#[],#[]⟩) (g2:o2.guard=none) (d2:o2.dst=some d') (op2:o2.op=.assign (.tmp d)) (hd:Nat.blt d cx.N=true) (hd':Nat.blt d' cx.N=true) (hres:fn.results=#[])
  (h:TrE P cx B ((d',.cv pv)::(d,.cv pv)::argT 0 (κs.map fun κ=>.pt κ 0)) H fun e _ H'=>match e with
   | .normal | .ret=>K H'
   | _=>False):DefP P g κs pv H K:=by
 unfold DefP
 intro X m caps w hs hv hh
 refine callsDIn_of_wpSIn hf hb trivial fun c₀ cs hmode=>?_
 refine wpSIn_seq (wpSIn_region ?_)
 show wpOpsSIn Fence.wide 0 P #[o1,o2] _ [0,1] _ _ w
 have w1:∀ ys,Region.wanted o1 ys=true:=fun ys=>by simp [Region.wanted,g1]
 have w2:∀ ys,Region.wanted o2 ys=true:=fun ys=>by simp [Region.wanted,g2]
 have e0:(#[o1,o2]:Array Oper)[0]?=some o1:=rfl
 have e1:(#[o1,o2]:Array Oper)[1]?=some o2:=rfl
 have hr0:=Rel.start (N:=fn.ntmps) (vals:=caps) (args:=κs.map fun κ=>.pt κ 0) (by simpa using hs) (fun j v c hvj hc=>by
  simp only [List.getElem?_map,Option.map_eq_some_iff] at hc
  obtain ⟨κ,hκ,rfl⟩:=hc
  exact hv j v κ hvj hκ) hh (by simpa using hlen)
 generalize ha0:({ tmps:=caps++Array.replicate (fn.ntmps - caps.size) undef,defers:=[] }:Act)=a0 at hr0
 have hdf0:a0.defers=[]:=by rw [← ha0]
 have run1:(execOp a0.eval o1).run P w=.ok .recover w:=by
  obtain ⟨dst1,op1',ty1,pos1,after1,guard1⟩:=o1
  dsimp only at op1
  subst op1
  simp [execOp,resolve,invoke,builtin]
 simp only [wpOpsSIn,e0,e1,w1,w2,if_true,run1,show recoverD (c₀::cs)=some (pv,{ c₀ with mode:=.panicking [{ v:=pv,recovered:=true }] }::cs) from by simp [recoverD,hmode,pch]]
 refine ⟨fun _ _=>trivial,fun _ _=>trivial,?_⟩
 rw [d1,d2]
 have hr1:=hr0.put (.refl _ _ _) hr0.heap (v:=pv) (c:=.cv pv) (.cv _) (show d < fn.ntmps by rw [← hN]; simpa [Nat.blt_eq] using hd)
 generalize ha1:a0.put (some d) pv=a1 at hr1
 have hev:a1.eval (.tmp d)=pv:=by
  rw [← ha1]
  show (a0.tmps.setIfInBounds d _).getD d undef=_
  have hsz:d < a0.tmps.size:=by rw [hr0.size,← hN]; simpa [Nat.blt_eq] using hd
  simp [Array.getD_eq_getD_getElem?,hsz]
 have run2:(execOp a1.eval o2).run P w=.ok (.value pv) w:=by
  obtain ⟨dst2,op2',ty2,pos2,after2,guard2⟩:=o2
  dsimp only at op2
  subst op2
  simp [execOp,hev]
 simp only [run2]
 have hr2:=hr1.put (.refl _ _ _) hr1.heap (v:=pv) (c:=.cv pv) (.cv _) (show d' < fn.ntmps by rw [← hN]; simpa [Nat.blt_eq] using hd')
 have hdf2:(a1.put (some d') pv).defers=[]:=by rw [put_defers,← ha1,put_defers]; exact hdf0
 unfold TrE at h
 rw [hro,Fw_none] at h
 refine wpSIn_of_wpIn rfl ?_
 refine wpIn_mono (h X m w m _ w (by rw [hF]; exact hh.len) (by rw [hN]; exact hr2) hdf2) ?_
 rintro e a' w' ⟨hda,m',T',H',hr,hq⟩
 have fin:∃ v,(results fn a'.tmps).run P w'=.ok v w':=by
  obtain ⟨v,_,k1,_⟩:=results_ok (fn:=fn) (k:=fun _=>True) hL hr.tmp hr.heap (by rw [hres]; trivial)
  exact ⟨v,k1⟩
 obtain ⟨v,hv'⟩:=fin
 cases e with
 | normal=>exact ⟨hda,_,rfl,v,hv',⟨v,rfl⟩,rfl,m',H',hr.heap,hr.ext,hq⟩
 | ret=>exact ⟨hda,_,rfl,v,hv',⟨v,rfl⟩,rfl,m',H',hr.heap,hr.ext,hq⟩
 | _=>exact hq.elim
theorem DefR.of_tr {cx:Cx} (hL:LayOK P cx.L) (hro:cx.ro=none) {g:FuncId} {fn:Func} {id:Nat} {o1 o2:Oper} {B:Code} (hf:P.funcs[g]?=some fn) (hb:fn.body=some (.seq (.region id #[o1,o2] false) B)) (hN:cx.N=fn.ntmps) (hF:cx.F=H.length) {κs:List Nat} (hlen:κs.length≤fn.ntmps) (d d':Nat)
  (g1:o1.guard=none) (d1:o1.dst=some d) (op1:o1.op=.call ⟨.builtin .recover,#[],#[]⟩) (g2:o2.guard=none) (d2:o2.dst=some d') (op2:o2.op=.assign (.tmp d)) (hd:Nat.blt d cx.N=true) (hd':Nat.blt d' cx.N=true) (hres:fn.results=#[])
  (h:TrE P cx B ((d',.d .ni)::(d,.d .ni)::argT 0 (κs.map fun κ=>.pt κ 0)) H fun e _ H'=>match e with
   | .normal | .ret=>H'=H
   | _=>False):DefR P g κs H:=by
 unfold DefR
 intro X m caps w hs hv hh
 refine callsDIn_of_wpSIn hf hb trivial fun c₀ cs hmode=>?_
 refine wpSIn_seq (wpSIn_region ?_)
 show wpOpsSIn Fence.wide 0 P #[o1,o2] _ [0,1] _ _ w
 have w1:∀ ys,Region.wanted o1 ys=true:=fun ys=>by simp [Region.wanted,g1]
 have w2:∀ ys,Region.wanted o2 ys=true:=fun ys=>by simp [Region.wanted,g2]
 have e0:(#[o1,o2]:Array Oper)[0]?=some o1:=rfl
 have e1:(#[o1,o2]:Array Oper)[1]?=some o2:=rfl
 have hr0:=Rel.start (N:=fn.ntmps) (vals:=caps) (args:=κs.map fun κ=>.pt κ 0) (by simpa using hs) (fun j v c hvj hc=>by
  simp only [List.getElem?_map,Option.map_eq_some_iff] at hc
  obtain ⟨κ,hκ,rfl⟩:=hc
  exact hv j v κ hvj hκ) hh (by simpa using hlen)
 generalize ha0:({ tmps:=caps++Array.replicate (fn.ntmps - caps.size) undef,defers:=[] }:Act)=a0 at hr0
 have hdf0:a0.defers=[]:=by rw [← ha0]
 have run1:(execOp a0.eval o1).run P w=.ok .recover w:=by
  obtain ⟨dst1,op1',ty1,pos1,after1,guard1⟩:=o1
  dsimp only at op1
  subst op1
  simp [execOp,resolve,invoke,builtin]
 simp only [wpOpsSIn,e0,e1,w1,w2,if_true,run1,show recoverD (c₀::cs)=none from by simp [recoverD,hmode]]
 refine ⟨fun _ _=>trivial,fun _ _=>trivial,?_⟩
 rw [d1,d2]
 have hr1:=hr0.put (.refl _ _ _) hr0.heap (v:=.nilIface) (c:=.d .ni) (.d _ _ .ni) (show d < fn.ntmps by rw [← hN]; simpa [Nat.blt_eq] using hd)
 generalize ha1:a0.put (some d) .nilIface=a1 at hr1
 have hev:a1.eval (.tmp d)=.nilIface:=by
  rw [← ha1]
  show (a0.tmps.setIfInBounds d _).getD d undef=_
  have hsz:d < a0.tmps.size:=by rw [hr0.size,← hN]; simpa [Nat.blt_eq] using hd
  simp [Array.getD_eq_getD_getElem?,hsz]
 have run2:(execOp a1.eval o2).run P w=.ok (.value .nilIface) w:=by
  obtain ⟨dst2,op2',ty2,pos2,after2,guard2⟩:=o2
  dsimp only at op2
  subst op2
  simp [execOp,hev]
 simp only [run2]
 have hr2:=hr1.put (.refl _ _ _) hr1.heap (v:=.nilIface) (c:=.d .ni) (.d _ _ .ni) (show d' < fn.ntmps by rw [← hN]; simpa [Nat.blt_eq] using hd')
 have hdf2:(a1.put (some d') .nilIface).defers=[]:=by rw [put_defers,← ha1,put_defers]; exact hdf0
 unfold TrE at h
 rw [hro,Fw_none] at h
 refine wpSIn_of_wpIn rfl ?_
 refine wpIn_mono (h X m w m _ w (by rw [hF]; exact hh.len) (by rw [hN]; exact hr2) hdf2) ?_
 rintro e a' w' ⟨hda,m',T',H',hr,hq⟩
 have fin:∃ v,(results fn a'.tmps).run P w'=.ok v w':=by
  obtain ⟨v,_,k1,_⟩:=results_ok (fn:=fn) (k:=fun _=>True) hL hr.tmp hr.heap (by rw [hres]; trivial)
  exact ⟨v,k1⟩
 obtain ⟨v,hv'⟩:=fin
 cases e with
 | normal=>exact ⟨hda,_,by rw [← hmode],v,hv',⟨v,rfl⟩,rfl,m',hq ▸ hr.heap,hr.ext⟩
 | ret=>exact ⟨hda,_,by rw [← hmode],v,hv',⟨v,rfl⟩,rfl,m',hq ▸ hr.heap,hr.ext⟩
 | _=>exact hq.elim
end Go.Abs
