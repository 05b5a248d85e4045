/- Iterators, statement by statement. No condition. -/
import Derived.Test.YthandbiapckgkaaZB3
import Derived.Test.YthandbiapckgkaaZA19
namespace Go.Abs
variable {P:Program} {X:Nat→Prop} {m m':Mp} {H:Hp} {w w':World}
abbrev PostY:=Exit→Tp→Hp→Nat→Prop
theorem TrY.seq {cx:Cx} {l:Nat} {xs:YL} {A B:Code} {T:Tp} {H:Hp} {i:Nat} {Q:PostY} (h:TrY P cx l xs A T H i fun e T H i=>match e with
  | .normal=>TrY P cx l xs B T H i Q
  | e=>Q e T H i):TrY P cx l xs (.seq A B) T H i Q:=by
 unfold TrY at h ⊢
 intro J hJ a w hr
 refine wpX_seq (wpX_mono (h J hJ a w hr) ?_)
 rintro e a w (⟨T,H,i,hr,hq⟩ | ⟨pv,X,rfl,hp⟩)
 ·cases e with
  | normal=>exact hq J hJ a w hr
  | _=>exact .inl ⟨T,H,i,hr,hq⟩
 ·exact .inr ⟨pv,X,rfl,hp⟩
theorem TrY.skip {cx:Cx} {l:Nat} {xs:YL} {T:Tp} {H:Hp} {i:Nat} {Q:PostY} (h:Q .normal T H i):TrY P cx l xs .skip T H i Q:=by
 unfold TrY; exact fun J hJ a w hr=>wpX_skip (.inl ⟨T,H,i,hr,h⟩)
theorem TrY.exit {cx:Cx} {l:Nat} {xs:YL} {id:Nat} {T:Tp} {H:Hp} {i:Nat} {Q:PostY} (h:Q (.exit id) T H i):TrY P cx l xs (.exit id) T H i Q:=by
 unfold TrY; exact fun J hJ a w hr=>wpX_exit (.inl ⟨T,H,i,hr,h⟩)
theorem TrY.ret {cx:Cx} {l:Nat} {xs:YL} {T:Tp} {H:Hp} {i:Nat} {Q:PostY} (h:Q .ret T H i):TrY P cx l xs .ret T H i Q:=by
 unfold TrY; exact fun J hJ a w hr=>wpX_ret (.inl ⟨T,H,i,hr,h⟩)
theorem TrY.cond {cx:Cx} {l:Nat} {xs:YL} {c:Operand} {x y:Code} {T:Tp} {H:Hp} {i:Nat} {Q:PostY} (h:bK (opd T c) fun t=>condS t (TrY P cx l xs x T H i Q) (TrY P cx l xs y T H i Q)):TrY P cx l xs (.cond c x y) T H i Q:=by
 unfold bK at h
 split at h
 ·rename_i t hc
  replace h:=condS_and h
  unfold TrY at h ⊢
  intro J hJ a w hr
  obtain ⟨X,wb,m,hr0,hj⟩:=hr
  have ho:=opd_ok hr0 c
  rw [hc] at ho
  exact wpX_cond_split ho.bool (fun ht=>h.1 ht J hJ a w ⟨X,wb,m,hr0,hj⟩) (fun ht=>h.2 ht J hJ a w ⟨X,wb,m,hr0,hj⟩)
 ·exact h.elim
def inBY (id:Nat) (Q:PostY):PostY:=fun e T H i=>match e with
 | .exit id'=>bif Nat.beq id' id then Q .normal T H i else Q (.exit id') T H i
 | e=>Q e T H i
theorem TrY.block {cx:Cx} {l:Nat} {xs:YL} {id:Nat} {c:Code} {T:Tp} {H:Hp} {i:Nat} {Q:PostY} (h:TrY P cx l xs c T H i (inBY id Q)):TrY P cx l xs (.block id c) T H i Q:=by
 unfold TrY at h ⊢
 intro J hJ a w hr
 refine wpX_block (wpX_mono (h J hJ a w hr) ?_)
 rintro e a w (⟨T,H,i,hr,hq⟩ | ⟨pv,X,rfl,hp⟩)
 rotate_left
 ·exact .inr ⟨pv,X,rfl,hp⟩
 unfold inBY at hq
 cases e with
 | exit id' =>
  simp only [Exit.inBlock]
  by_cases hid:id'=id
  ·subst hid
   simp only [Nat.beq_refl,cond_true] at hq
   rw [if_pos rfl]; exact .inl ⟨T,H,i,hr,hq⟩
  ·have hb:Nat.beq id' id=false:=by
    cases hq:Nat.beq id' id with
    | false=>rfl
    | true=>exact absurd (Nat.eq_of_beq_eq_true hq) hid
   simp only [hb,cond_false] at hq
   rw [if_neg hid]; exact .inl ⟨T,H,i,hr,hq⟩
 | _=>exact .inl ⟨T,H,i,hr,hq⟩
theorem TrY.region {cx:Cx} (hL:LayOK P cx.L) {l:Nat} {xs:YL} {id:Nat} {ops:Array Oper} {T:Tp} {H:Hp} {i:Nat} {Q:PostY} (h:RunOpsY P cx l xs ops.toList ops.toList T H i fun T H i=>Q .normal T H i):TrY P cx l xs (.region id ops false) T H i Q:=by
 unfold TrY
 intro J hJ a w hr
 refine wpX_region ?_
 have hrun:=RunOpsY_ok (Q:=fun e a w=>(∃ T H i,RelY J cx.N T H i a w∧Q e T H i)∨PanY xs J e a w) hL hJ ops (fun T H i a w hr hk=>.inl ⟨T,H,i,hr,hk⟩) (fun e a w hp=>.inr hp) ops.toList 0 T H i a w (by simp) h hr
 rw [List.range_eq_range']
 simpa using hrun
theorem Rel.frz [Inhabited DSt] {mb:Mp} {wb:World} {N:Nat} {T:Tp} {a:Act} (h:Rel X mb wb N m T H a w) {t:Nat} {k:D→Hp→Prop} (hk:Abs.frz 8 (getT T t) H k):∃ m' H' d,Rel X mb wb N m' ((t,.d d)::T) H' a w∧k d H':=by
 obtain ⟨m',H',d,h1,h2,h3,h4⟩:=frz_ok 8 _ H k m _ hk (h.tmp t) h.heap
 refine ⟨m',H',d,⟨h.ext.trans h2,h.size,fun s=>?_,h1,?_⟩,h4⟩
 ·simp only [getT]
  cases hb:Nat.beq t s with
  | true =>
   obtain rfl:=Nat.eq_of_beq_eq_true hb
   exact .d _ _ h3
  | false=>exact (h.tmp s).ext h2
 ·obtain ⟨ms,e,nd,hd⟩:=h.defers
  exact ⟨ms,e,nd,fun D hD=>⟨defers_ext h2 (hd D hD).1,(hd D hD).2⟩⟩
theorem TrY.frz {cx:Cx} {l:Nat} {xs:YL} {c:Code} {T:Tp} {H:Hp} {i:Nat} {Q:PostY} (t:Nat) (h:Abs.frz 8 (getT T t) H fun d H'=>TrY P cx l xs c ((t,.d d)::T) H' i Q):TrY P cx l xs c T H i Q:=by
 unfold TrY
 intro J hJ a w ⟨X,wb,m,hr,hj,hd⟩
 obtain ⟨m',H',d,hr',h'⟩:=hr.frz h
 unfold TrY at h'
 exact h' J hJ a w ⟨X,wb,m',hr',hj,hd⟩
theorem Tr.frz [Inhabited DSt] {cx:Cx} {c:Code} {T:Tp} {H:Hp} {Q:Post} (t:Nat) (h:Abs.frz 8 (getT T t) H fun d H'=>Tr P cx c ((t,.d d)::T) H' Q):Tr P cx c T H Q:=by
 unfold Tr
 intro X mb wb m a w hF hr
 obtain ⟨m',H',d,hr',h'⟩:=hr.frz h
 unfold Tr at h'
 exact h' X mb wb m' a w hF hr'
def Rem {α:Type} (xs:YL) (g:α→List D) (i:Nat) (ys:List α):Prop:=i≤xs.l.length∧(xs.st=false∧xs.l.drop i=ys.map g∨xs.st=true∧xs.l.drop i≠[]∧∃ k,xs.l.drop i=(ys.take k).map g)
theorem Rem.all {α:Type} {g:α→List D} {ys:List α}:Rem ⟨ys.map g,false,none⟩ g 0 ys:=⟨Nat.zero_le _,.inl ⟨rfl,rfl⟩⟩
theorem ylS_of {α:Type} {xs:YL} {g:α→List D} {i:Nat} {a:α} {ys:List α} {args:List AV} {K:Bool→Prop} (h:Rem xs g i (a::ys)) (ha:args=(g a).map .d) (hk:∀ gb:Bool,(gb=true→Rem xs g (i+1) ys)→(gb=false→i+1=xs.l.length)→K gb):ylS xs i args K:=by
 obtain ⟨h1,h2⟩:=h
 have h3:∃ r,xs.l.drop i=g a::r:=by
  rcases h2 with ⟨_,h2⟩ | ⟨_,h2,k,h4⟩
  ·exact ⟨_,h2⟩
  ·cases k with
   | zero=>rw [h4] at h2; simp at h2
   | succ k=>exact ⟨(ys.take k).map g,by rw [h4]; rfl⟩
 obtain ⟨r,h3⟩:=h3
 have h5:xs.l[i]?=some (g a):=by have:=congrArg (·[0]?) h3; simpa using this
 have hlt:=(List.getElem?_eq_some_iff.1 h5).1
 have h6:xs.l.drop (i+1)=r:=by have:=congrArg List.tail h3; simpa using this
 refine ylS_mk (g a) h5 ha (hk _ (fun hg=>⟨by omega,?_⟩) (fun hg=>?_))
 ·rcases h2 with ⟨h2,h7⟩ | ⟨h2,h7,k,h4⟩
  ·refine .inl ⟨h2,?_⟩
   have:=congrArg List.tail h7
   simpa using this
  ·refine .inr ⟨h2,?_,?_⟩
   ·unfold goB at hg
    rw [h2] at hg
    simp only [Bool.true_and,Bool.not_eq_true'] at hg
    intro he
    have h8:i+1=xs.l.length:=by
     have:=List.drop_eq_nil_iff.1 he
     omega
    rw [h8,Nat.beq_refl] at hg; cases hg
   ·cases k with
    | zero=>rw [h4] at h7; simp at h7
    | succ k =>
     refine ⟨k,?_⟩
     have:=congrArg List.tail h4
     simpa using this
 ·unfold goB at hg
  simp only [Bool.not_eq_false',Bool.and_eq_true] at hg
  exact Nat.eq_of_beq_eq_true hg.2
theorem Rem.done {α:Type} {xs:YL} {g:α→List D} {i:Nat} (h:Rem xs g i ([]:List α)):i=xs.l.length:=by
 obtain ⟨h1,h2⟩:=h
 rcases h2 with ⟨_,h2⟩ | ⟨_,h2,k,h3⟩
 ·simp at h2; omega
 ·rw [h3] at h2; simp at h2
theorem TrY.loopM {σ α:Type} {cx:Cx} {l:Nat} {xs:YL} {g:α→List D} {c:Code} {T:Tp} {H:Hp} {i:Nat} {Q:PostY} (M:Nat→σ→Option (List α)) (ys:List α) (S:σ→Tp × Hp) (n0:Nat) (s0:σ) (hM:M n0 s0=some ys) (hz:∀ s,M 0 s=none) (hx:Rem xs g i ys) (h0:Wk 0 T H (S s0).1 (S s0).2)
  (round:∀ n s i ys,M (n+1) s=some ys→Rem xs g i ys→TrY P cx l xs c (S s).1 (S s).2 i fun e T' H' i'=>match e with
   | .normal=>∃ s' ys',M n s'=some ys'∧Rem xs g i' ys'∧Wk 0 T' H' (S s').1 (S s').2
   | e=>Q e T' H' i'):TrY P cx l xs (.loop c) T H i Q:=by
 unfold TrY
 intro J hJ a w hr
 have key:∀ (n:Nat) (s:σ) (i:Nat) (ys:List α) (a:Act) (w:World),M n s=some ys→Rem xs g i ys→RelY J cx.N (S s).1 (S s).2 i a w→Code.roundsX (Fw none) 0 P c (fun e a w=>(∃ T H i,RelY J cx.N T H i a w∧Q e T H i)∨PanY xs J e a w) n a w:=by
  intro n
  induction n with
  | zero=>intro s i ys a w h _ _; rw [hz] at h; cases h
  | succ n ih =>
   intro s i ys a w h hx hr
   have h1:=round n s i ys h hx
   unfold TrY at h1
   rw [roundsX_succ]
   refine wpX_mono (h1 J hJ a w hr) ?_
   rintro e a w (⟨T1,H1,i1,hr1,hq⟩ | ⟨pv,X,rfl,hp⟩)
   rotate_left
   ·exact .inr ⟨pv,X,rfl,hp⟩
   cases e with
   | normal =>
    obtain ⟨s',ys',h2,h3,h4⟩:=hq
    exact ih s' i1 ys' a w h2 h3 (RelY.weak h4 hr1)
   | _=>exact .inl ⟨T1,H1,i1,hr1,hq⟩
 exact wpX_loop_rounds n0 (key n0 s0 i ys a w hM hx (RelY.weak h0 hr))
theorem ItC.of_tr {α : Type} {cx : Cx} {f : FuncId} {fn : Func} {c : Code} (hf : P.funcs[f]? = some fn) (hb : fn.body = some c) (hn : (fn.name == "runtime.NumGoroutine") = false) {ds : List D} {g : α → List D} {ys : List α} {xs : YL} (hx : Rem xs g 0 ys)
  (hN:cx.N=fn.ntmps) (hlen:ds.length+1≤fn.ntmps) (hres:fn.results=#[])
  (h:∀ l,Rem xs g 0 ys→TrY P cx l xs c (argT 0 (.yl l::ds.map .d)) [] 0 fun e _ _ i=>match e with
   | .normal | .ret=>i=xs.l.length
   | _=>False):ItC P f ds xs:=by
 unfold ItC
 refine ⟨⟨fn,c,hf,hb,hn⟩,fun l J hJ X vals w hs hv hX ht hj=>?_⟩
 refine callsIn_of_wpX hf hb trivial ?_
 have hh:HRel X [] [] w:=⟨rfl,fun κ B h=>by simp at h,fun κ κ' b h=>by simp at h,fun κ b h=>by simp at h,hX,ht⟩
 have h1:=h l hx
 unfold TrY at h1
 have hst:=Rel.start (N:=fn.ntmps) (vals:=#[.func (.yield l) #[] #[]]++vals) (args:=.yl l::ds.map .d) (by simp; omega) (fun j v c hvj hc=>?_) hh (by simpa using hlen)
 ·have h2:=h1 J hJ _ w ⟨X,w,[],by rw [hN]; exact hst,hj,rfl⟩
  refine wpX_mono h2 ?_
  rintro e a w' (⟨T,H,i,⟨X',wb,m,hr,hj',hd⟩,hq⟩ | ⟨pv,X',rfl,h3,h4,h5⟩)
  rotate_left
  ·exact ⟨h4,.inr ⟨pv,X',h3,rfl,h5⟩⟩
  have fin:i=xs.l.length→a.defers=[]∧∃ v,(results fn a.tmps).run P w'=.ok v w'∧((∃ v' X',Ending.returned v=.returned v'∧J xs.l.length X' w')∨∃ pv X',xs.pn=some pv∧Ending.returned v=.panicked (pch pv)∧J (xs.l.length+1) X' w'):=by
   rintro rfl
   refine ⟨hd,.tuple #[],?_,.inl ⟨_,X',rfl,hJ.stab _ _ _ _ hj' (KeepW.of_ext hr.ext)⟩⟩
   simp [results,hres]
  cases e with
  | normal=>exact fin hq
  | ret=>exact fin hq
  | _=>exact hq.elim
 ·cases j with
  | zero =>
   simp at hc
   subst hc
   have:v=.func (.yield l) #[] #[]:=by
    rw [Array.getElem?_append_left (by simp)] at hvj
    simpa using hvj.symm
   rw [this]
   exact .yl l
  | succ j =>
   rw [Array.getElem?_append_right (by simp)] at hvj
   simp only [List.getElem?_cons_succ,List.getElem?_map,Option.map_eq_some_iff] at hc
   obtain ⟨c',hc',rfl⟩:=hc
   exact .d _ _ (hv j v c' (by simpa using hvj) hc')
theorem goB_false {xs:YL} {i:Nat} (h:xs.st=false):goB xs i=true:=by unfold goB; rw [h]; rfl
theorem Tr.rangeM {σ α:Type} {cx:Cx} (hL:LayOK P cx.L) (hro:cx.ro=none) {g:Operand} {ps:Array Tmp} {asg body:Code} {T:Tp} {H:Hp} {Q:Post} {f:FuncId} {caps:List D} {ge:α→List D} {l:List α}
  (hg:opd T g=.d (.fn f caps)) (hit:∀ xs:YL,Rem xs ge 0 l→ItC P f caps xs) (hps:∀ x,(ge x).length=ps.size) (hlt:(ps.toList.all fun p=>Nat.blt p cx.N)=true) (S:σ→Hp) (step:α→σ→Option σ) (s0 s1:σ) (hR:foldO step l s0=some s1) (h0:Wk H.length [] H [] (S s0))
  (round:∀ (li:Nat) a s s',a ∈ l→step a s=some s'→TrE P { N:=cx.N,ro:=some li,L:=cx.L,F:=(S s).length } asg (parT ps.toList (ge a) T) (S s) fun e T1 H1=>match e with
   | .normal=>(Tr P { N:=cx.N,ro:=some li,L:=cx.L,F:=H1.length } body T1 H1 fun e T2 H2=>match e with
    | .normal=>Wk H.length T2 H2 [] (S s')
    | _=>False)
   | _=>False)
  (hdone:Q .normal T (S s1)):Tr P cx (.rangeFunc g ps asg body) T H Q:=by
 obtain ⟨ss,e0,e1,hs⟩:=foldO_split hR
 have hr:RangeP P cx g ps asg body T H Q:=by
  refine RangeP.mk0 (xs:=⟨l.map ge,false,none⟩) hL hro rfl hg (hit _ Rem.all) (fun x hx=>?_) hlt (fun i=>S (ss i)) .ret (.inl rfl) (fun h=>by cases h) (by rw [e0]; exact h0) (fun li i x hx=>?_) (by simp only [List.length_map,Bool.false_eq_true,if_false]; rw [e1]; exact hdone)
  ·obtain ⟨a,_,rfl⟩:=List.mem_map.1 hx
   exact hps a
  ·simp only [List.getElem?_map,Option.map_eq_some_iff] at hx
   obtain ⟨a,ha,rfl⟩:=hx
   refine ⟨_,round li a (ss i) (ss (i+1)) (List.mem_of_getElem? ha) (hs i a ha),fun e T2 H2 hq=>?_⟩
   rw [if_pos (goB_false rfl)]
   cases e with
   | normal=>exact ⟨rfl,hq⟩
   | _=>exact hq.elim
 unfold RangeP at hr
 exact hr
end Go.Abs
