/- From a contract of this layer to the given statement of a law. No condition. -/
import Derived.Test.YthandbiapckgkaaZB5
import Derived.WalkKit
import Derived.ProofKit
import Derived.ChangeCalls
namespace Go.Abs
open Go.ChangeShapes Go.WideShapes Go.RowKit
section
variable {H:Type} {enc:TypeId × Value→H} {P:Program} {w w':World}
theorem trodAll_at {base:Nat} {spare:Nat→Bool} {held:Bool}:∀ {ts:List TypeId} {vs:List Value} {ds:List (DataW H)} {ps:List MemPlace},DataW.TrodAll enc P w base spare held ts vs ds ps →
  ∀ (j:Nat) t v,ts[j]?=some t→vs[j]?=some v→∃ d p,ds[j]?=some d∧DataW.Trod enc P w base spare held t v d p
 | [],[],[],_,_,j,t,v,ht,_=>by simp at ht
 | t0::ts,v0::vs,d0::ds,ps,h,j,t,v,ht,hv=>by
  obtain ⟨p,q,h1,h2,rfl⟩:=h
  cases j with
  | zero=>simp at ht hv; subst ht; subst hv; exact ⟨_,_,rfl,h1⟩
  | succ j=>simpa using trodAll_at h2 j t v (by simpa using ht) (by simpa using hv)
 | [],_::_,_,_,h,_,_,_,_,_=>by cases h
 | _::_,[],_,_,h,_,_,_,_,_=>by cases h
 | _::_,_::_,[],_,h,_,_,_,_,_=>by cases h
 | [],[],_::_,_,h,_,_,_,_,_=>by cases h
theorem trodAll_stays (hl:laidOutB P=true) (hw:∀ b,b < w.heap.size→w'.heap[b]?=w.heap[b]?):∀ {ts:List TypeId} {vs:List Value} {ds:List (DataW H)} {ps:List MemPlace},(∀ t,t ∈ ts→P.readableRec t=true∧t < P.types.size) →
  DataW.TrodAll enc P w 0 (fun _=>true) true ts vs ds ps→(∀ p,p ∈ ps→p.block < w.heap.size)→∀ sp:Nat→Bool,(∀ p,p ∈ ps→sp p.block=true)→DataW.TrodAll enc P w' 0 sp true ts vs ds ps
 | [],[],[],_,_,h,_,_,_=>h
 | t0::ts,v0::vs,d0::ds,ps,ht,h,hlt,sp,hs=>by
  obtain ⟨p,q,h1,h2,rfl⟩:=h
  refine ⟨p,q,?_,trodAll_stays hl hw (fun t h=>ht t (by simp [h])) h2 (fun x hx=>hlt x (by simp [hx])) sp (fun x hx=>hs x (by simp [hx])),rfl⟩
  obtain ⟨r1,r2⟩:=ht t0 (by simp)
  refine WideElems.Trod_stays hl r1 r2 h1 (fun x hx=>?_) (fun x hx=>hs x (by simp [hx]))
  have hb:=hw x.block (hlt x (by simp [hx]))
  cases x with
  | cell b o=>exact World.cell?_of_block (w:=w) hb
  | map b=>exact hb
 | [],_::_,_,_,_,h,_,_,_=>by cases h
 | _::_,[],_,_,_,h,_,_,_=>by cases h
 | _::_,_::_,[],_,_,h,_,_,_=>by cases h
 | [],[],_::_,_,_,h,_,_,_=>by cases h
theorem lifted {C:Checked} {os:Os} {f:FuncId} {fn:Func} {s:ChangeSpec} {tb:TypeId} (own:ownKnob C.prog.godebug=none) (started:os.Started) (noInit:C.prog.inits.idxOf? f=none) (hfn:C.prog.funcs[f]?=some fn)
  (witness:∃ (w:World) (tape:Tape) (i:Input),w.os=os∧(w.forCall tape i).Shaped C.prog∧i.vars=[]∧Input.okWide C.prog (w.forCall tape i) .any w.heap.size f i ∧
   s.pre6 enc C.prog fn [] false (w.forCall tape i).memory i.args∧({}:Assume).holds C.prog (lone (Frame.enter C.prog f i.args .normal) [] (w.forCall tape i)))
  (hr:fn.resultTypes=#[tb]) (htb:C.prog.underlying tb=some .bool) (hv:s.vars=[]) (hs:∀ ds:List (DataW H),ds.length=fn.params.size→s.fn H ds={ results:=[.lit (.bool true)],args:=ds })
  (hl:laidOutB C.prog=true) (hts:(fn.params.toList.all fun t=>C.prog.readableRec t && Nat.blt t C.prog.types.size)=true)
  (hno:∀ g cs,¬ TabL g cs) (hcall:∀ (W:World) (b0:Nat) (vs:List Value),ArgsOf enc C.prog W b0 fn.params.toList vs→∃ ds:List D,RdL W vs ds∧PC C.prog f ds (fun rs=>rs=[.b true])) :
  ReturnsInHanded {} C os f .any (s.pre6 enc C.prog fn [] false) (s.post enc C.prog fn false true false false):=by
 refine returnsInHanded_of_change_sized own started noInit hfn witness ?_
 intro W base args ds gs before hval hW _ hsz _
 have hW0:=hW
 obtain ⟨p,q,hA,hV,rfl,hfz,_⟩:=hW
 rw [hv] at hV
 have hgs:gs=[]∧q=[]:=by
  cases gs with
  | nil=>exact ⟨rfl,hV⟩
  | cons g r=>cases hV
 obtain ⟨rfl,rfl⟩:=hgs
 have hlen:=Go.trodAll_length hA
 obtain ⟨xs,⟨h1,h2⟩,h3⟩:=hcall W base args.toList ⟨hlen.1,fun j t v ht hva=>⟨hval j t v (by simpa using ht) (by simpa using hva),by
  obtain ⟨d,p,h1,h2⟩:=trodAll_at hA j t v ht hva
  refine ⟨d,p,h2,fun n hn=>?_⟩
  have:=List.all_eq_true.1 hsz n (DataW.weights_mem_each (j:=j) (by rw [List.getElem?_append_left (by have:=(List.getElem?_eq_some_iff.1 ht).1; simpa using this)]; exact ht) (by rw [List.append_nil]; exact h1) n hn)
  simpa using this⟩⟩
 have hts:∀ t,t ∈ fn.params.toList→C.prog.readableRec t=true∧t < C.prog.types.size:=fun t ht=>by
  have:=List.all_eq_true.1 hts t ht
  rw [Bool.and_eq_true] at this
  exact ⟨this.1,Nat.le_of_ble_eq_true this.2⟩
 unfold PC at h3
 refine (callsIn_wide.1 (h3.2 (fun _=>False) args W (by simpa using h1) (fun j v c hv hc=>h2 j v c (by simpa using hv) hc) (fun b hb=>hb.elim) ⟨fun g cs hg=>(hno g cs hg).elim⟩)).mono ?_
 rintro e W' ⟨v,rs,rfl,hvr,hx,rfl⟩
 refine ⟨v,rfl,?_⟩
 have hv1:v=.bool true:=by
  unfold retD at hvr
  cases hvr with
  | d _ _ h=>cases h; rfl
 subst hv1
 have hkeep:∀ b,b < W.heap.size→W'.heap[b]?=W.heap[b]?:=fun b hb=>(hx.keep b hb (fun h=>by cases h)).1
 have hbel:Below W.heap.size W W':=⟨hx.out.1,hx.out.2.2,hx.out.2.1,hx.size,hkeep⟩
 have hlt:∀ x,x ∈ p→x.block < W.heap.size:=fun x hx=>hW0.lt x (by simpa using hx)
 have hsd:=hs (ds++[]) (by simpa using hlen.2)
 have hstay:=trodAll_stays (enc:=enc) hl hkeep hts hA hlt
 refine ⟨ds,[],p++[],[],p,[],hW0,?_,?_,?_,hbel.frame _,fun h=>by cases h⟩
 ·rw [hsd,hr]; exact trodAll_mk1 (shut_bool htb true)
 ·rw [hsd]
  simpa using hstay (fun b=>decide (b < W.heap.size)) (fun x hx=>by simpa using hlt x hx)
 ·rw [hsd,hv]; exact rfl
end
end Go.Abs
