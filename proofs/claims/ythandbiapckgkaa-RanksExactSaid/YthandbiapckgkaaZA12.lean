/- One operation over an abstract state is sound; a region of operations in the order of the text; code. No condition. -/
import Derived.Test.YthandbiapckgkaaZA11
namespace Go.Abs
variable {P:Program} {X:Nat→Prop} {m m':Mp} {H:Hp} {w w':World}
theorem cloK_ok {f:FuncId} {caps:List AV} {vs:Array Value} {k:AV→Prop} (h:cloK f caps k) (hl:vs.size=caps.length) (hv:∀ (j:Nat) v c,vs[j]?=some v→caps[j]?=some c→V X m w v c) :
  ∃ av,V X m w (.func (.func f) #[] vs) av∧k av:=by
 rcases allDK_ok h with ⟨ds,rfl,hk⟩ | hk
 ·exact ⟨_,.d _ _ (.fn f vs ds (by simpa using hl) fun j v c h1 h2=>Rd.of_V (hv j v (.d c) h1 (by simp [h2]))),hk⟩
 ·exact ⟨_,.fn f vs caps hl hv,hk⟩
theorem cloM_ok {f:FuncId} {caps:List AV} {vs:Array Value} {k:AV→Prop} (h:cloM f caps k) (hl:vs.size=caps.length) (hv:∀ (j:Nat) v c,vs[j]?=some v→caps[j]?=some c→V X m w v c) :
  ∃ av,V X m w (.func (.func f) vs #[]) av∧k av:=by
 rcases allDK_ok h with ⟨ds,rfl,hk⟩ | hk
 ·exact ⟨_,.d _ _ (.fm f vs ds (by simpa using hl) fun j v c h1 h2=>Rd.of_V (hv j v (.d c) h1 (by simp [h2]))),hk⟩
 ·exact ⟨_,.fm f vs caps hl hv,hk⟩
theorem caP_ok {f:AV} {args:List AV} {vf:Value} {vals:Array Value} {k:AV→Hp→Prop} (hf:V X m w vf f) (hl:vals.size=args.length) (hv:∀ (j:Nat) v c,vals[j]?=some v→args[j]?=some c→V X m w v c) (hh:HRel X m H w)
  (h:caP P f args H k):NOK P X m w (do let d ← Deferred.ofValue vf vals; invoke d.target d.args) k:=by
 have main:∀ (g:FuncId) (cs:Array Value) (caps:List AV),vf=.func (.func g) #[] cs→cs.size=caps.length→(∀ (j:Nat) v c,cs[j]?=some v→caps[j]?=some c→V X m w v c)→ECall P g (args++caps) H k →
   NOK P X m w (do let d ← Deferred.ofValue vf vals; invoke d.target d.args) k:=by
  intro g cs caps hvf hcl hcv h
  subst hvf
  unfold ECall at h
  obtain ⟨⟨fn,c,hfn,hbody,hname⟩,h⟩:=h
  refine .inr ⟨g,vals++cs,?_,h X m (vals++cs) w (by simp [hl,hcl]) (fun j v c h1 h2=>?_) hh⟩
  ·simp [Deferred.ofValue,invoke,callFunc,hfn,hbody,beq_eq_false_iff_ne.1 hname]
  ·by_cases hlt:j < vals.size
   ·rw [Array.getElem?_append_left hlt] at h1
    rw [List.getElem?_append_left (by omega)] at h2
    exact hv j v c h1 h2
   ·rw [Array.getElem?_append_right (by omega)] at h1
    rw [List.getElem?_append_right (by omega)] at h2
    rw [hl] at h1
    exact hcv _ v c h1 h2
 have main2:∀ (g:FuncId) (cs:Array Value) (caps:List AV),vf=.func (.func g) cs #[]→cs.size=caps.length→(∀ (j:Nat) v c,cs[j]?=some v→caps[j]?=some c→V X m w v c)→ECall P g (caps++args) H k →
   NOK P X m w (do let d ← Deferred.ofValue vf vals; invoke d.target d.args) k:=by
  intro g cs caps hvf hcl hcv h
  subst hvf
  unfold ECall at h
  obtain ⟨⟨fn,c,hfn,hbody,hname⟩,h⟩:=h
  refine .inr ⟨g,cs++vals,?_,h X m (cs++vals) w (by simp [hl,hcl]) (fun j v c h1 h2=>?_) hh⟩
  ·simp [Deferred.ofValue,invoke,callFunc,hfn,hbody,beq_eq_false_iff_ne.1 hname]
  ·by_cases hlt:j < cs.size
   ·rw [Array.getElem?_append_left hlt] at h1
    rw [List.getElem?_append_left (by omega)] at h2
    exact hcv j v c h1 h2
   ·rw [Array.getElem?_append_right (by omega)] at h1
    rw [List.getElem?_append_right (by omega)] at h2
    rw [hcl] at h1
    exact hv _ v c h1 h2
 unfold caP at h
 cases hf with
 | fn g cs caps hcl hcv=>exact main g cs caps rfl hcl hcv h
 | fm g cs caps hcl hcv=>exact main2 g cs caps rfl hcl hcv h
 | d _ x hr =>
  cases hr with
  | fn g cs ds hcl hcv=>exact main g cs (ds.map .d) rfl (by simpa using hcl) (fun j v c h1 h2=>by
    rw [List.getElem?_map,Option.map_eq_some_iff] at h2
    obtain ⟨d,hd,rfl⟩:=h2
    exact .d _ _ (hcv j v d h1 hd)) h
  | fm g cs ds hcl hcv=>exact main2 g cs (ds.map .d) rfl (by simpa using hcl) (fun j v c h1 h2=>by
    rw [List.getElem?_map,Option.map_eq_some_iff] at h2
    obtain ⟨d,hd,rfl⟩:=h2
    exact .d _ _ (hcv j v d h1 hd)) h
  | _=>exact h.elim
 | _=>exact h.elim
theorem mm_ok {mx:Bool} {x y:AV} {vx vy:Value} {k:AV→Hp→Prop} (hx:V X m w vx x) (hy:V X m w vy y) (hh:HRel X m H w) (h:mmP mx x y fun a=>k a H) :
  VOK P X m w (bif mx then Builtin.max2 vx vy else Builtin.min2 vx vy) k:=by
 unfold mmP at h
 cases hx with
 | d _ x hrx =>
  cases hrx with
  | i k1 p =>
   cases hy with
   | d _ y hry =>
    cases hry with
    | i k2 q =>
     cases mx with
     | false=>exact .pure rfl (.d _ _ (.i _ _)) hh h
     | true=>exact .pure rfl (.d _ _ (.i _ _)) hh h
    | _=>exact h.elim
   | _=>exact h.elim
  | _=>exact h.elim
 | _=>exact h.elim
theorem slice_of_li {L:Lay} {t:TypeId} {k:LI→Prop} (hL:LayOK P L) (h:liK L t fun li=>bif li.sl then k li else False):∃ li i u z,LIs P t li i u z∧li.sl=true∧k li:=by
 obtain ⟨li,i,u,z,hl,h⟩:=liK_ok hL h
 cases hs:li.sl with
 | false=>rw [hs] at h; exact h.elim
 | true=>rw [hs] at h; exact ⟨li,i,u,z,hl,hs,h⟩
theorem step_ok [Inhabited DSt] {L:Lay} (hL:LayOK P L) {mb:Mp} {wb:World} {N:Nat} {T:Tp} {a:Act} (hr:Rel X mb wb N m T H a w) (o:Oper) {k:AV→Hp→Prop} (h:stepP P L o.op T H k):NOK P X m w (execOp a.eval o) k:=by
 have hh:=hr.heap
 have ho:=opd_ok hr
 have hargs:∀ (xs:Array Operand),(xs.map a.eval).size=(xs.toList.map (opd T)).length∧∀ (j:Nat) v c,(xs.map a.eval)[j]?=some v→(xs.toList.map (opd T))[j]?=some c→V X m w v c:=by
  intro xs
  refine ⟨by simp,fun j v c h1 h2=>?_⟩
  rw [Array.getElem?_map,Option.map_eq_some_iff] at h1
  obtain ⟨x,hx,rfl⟩:=h1
  rw [List.getElem?_map,Option.map_eq_some_iff] at h2
  obtain ⟨y,hy,rfl⟩:=h2
  rw [Array.getElem?_toList,hx] at hy
  cases hy
  exact ho x
 obtain ⟨dst,op,type,pos,after,guard⟩:=o
 dsimp only at h
 cases op with
 | move x=>exact .inl ⟨_,w,m,_,H,.inl rfl,ho x,hh,.refl _ _ _,fK_ok (k:=fun v=>k v H) h⟩
 | assign x=>exact .inl ⟨_,w,m,_,H,.inl rfl,ho x,hh,.refl _ _ _,fK_ok (k:=fun v=>k v H) h⟩
 | pick c p q =>
  simp only [stepP] at h
  have hc:=ho c
  cases hx:opd T c with
  | d y =>
   rw [hx] at h hc
   cases y with
   | b x =>
    have hb:=hc.bool
    replace h:=condS_and h
    cases x with
    | true=>exact .inl ⟨_,w,m,_,H,.inl (by simp [execOp,hb,asBool]),ho p,hh,.refl _ _ _,fK_ok (h.1 rfl)⟩
    | false=>exact .inl ⟨_,w,m,_,H,.inl (by simp [execOp,hb,asBool]),ho q,hh,.refl _ _ _,fK_ok (h.2 rfl)⟩
   | _=>exact h.elim
  | _=>rw [hx] at h; exact h.elim
 | alloc t =>
  obtain ⟨li,i,u,z,hl,h⟩:=liK_ok hL h
  cases ha:li.ar with
  | false=>rw [ha] at h; exact VOK.next (al_ok hl hh h)
  | true =>
   rw [ha] at h
   simp only [cond_true] at h
   unfold orB at h
   rcases h with h | h
   ·obtain ⟨le,ie,ue,ze,hle,h⟩:=liK_ok hL h
    cases hq:Nat.beq le.size 1 with
    | false=>rw [hq] at h; exact VOK.next (al_ok hl hh h)
    | true=>rw [hq] at h; exact VOK.next (alA_ok hl hh h)
   ·exact VOK.next (al_ok hl hh h)
 | box t x=>exact VOK.next (bo_ok (ho x) hh h)
 | build t parts =>
  obtain ⟨li,i,u,z,hl,h⟩:=liK_ok hL h
  cases ha:li.ar with
  | false=>rw [ha] at h; exact VOK.next (bl_ok hl hh a.eval (opd T) ho parts h)
  | true =>
   rw [ha] at h
   obtain ⟨le,ie,ue,ze,hle,h⟩:=liK_ok hL h
   exact VOK.next (blA_ok hl ha hle hh a.eval (opd T) ho parts h)
 | buildSlice t n parts =>
  obtain ⟨li,i,u,z,hl,hs,h⟩:=slice_of_li hL h
  obtain ⟨le,ie,ue,ze,hle,h⟩:=liK_ok hL h
  exact VOK.next (bsP_ok hl hs hle hh a.eval (opd T) ho n parts h)
 | load t x =>
  obtain ⟨li,i,u,z,hl,h⟩:=liK_ok hL h
  exact VOK.next (ld_ok hl (ho x) hh h)
 | store t x v =>
  obtain ⟨li,i,u,z,hl,h⟩:=liK_ok hL h
  obtain ⟨w',m',H',hrun,hh',hx,hk⟩:=st2_ok hl (ho x) (ho v) hh h
  exact .inl ⟨undef,w',m',.un,H',.inr ⟨by simp [execOp,hrun],rfl⟩,.un _,hh',hx,hk⟩
 | nilCheck x =>
  obtain ⟨⟨ad,had⟩,hk⟩:=nc_ok (ho x) hh h
  exact .inl ⟨a.eval x,w,m,_,H,.inl (by simp [execOp,had]),ho x,hh,.refl _ _ _,hk⟩
 | binOp op t x y ty =>
  simp only [stepP] at h
  have hx:=ho x
  have hy:=ho y
  rcases biS_or h with ⟨p,q,rfl,hx',hy',h⟩ | h
  ·rw [hx'] at hx
   rw [hy'] at hy
   have e1:=hx.str
   have e2:=hy.str
   unfold catX at h
   obtain ⟨h0,h⟩:=h
   exact .inl ⟨.string (p++q),w,m,_,H,.inl (by simp [execOp,e1,e2,eqGuard,binOp,Op.stringOp,IntKind.max,IntKind.bits,IntKind.signed]; omega),.d _ _ (.s _),hh,.refl _ _ _,h⟩
  unfold biP at h
  have other:(liK L t fun li=>eqP op li (opd T x) (opd T y) fun v=>k v H)→NOK P X m w (execOp a.eval ⟨dst,.binOp op t x y ty,type,pos,after,guard⟩) k:=by
   intro h
   obtain ⟨li,i,u,z,hl,h⟩:=liK_ok hL h
   exact VOK.next (eq_ok hl hx hy hh h)
  split at h
  ·rename_i k1 p hx'
   split at h
   ·rename_i k2 q hy'
    rw [hx'] at hx
    rw [hy'] at hy
    cases hsh:isSh op with
    | true =>
     rw [hsh] at h
     simp only [cond_true] at h
     obtain ⟨v,d,hrun,hR,hkd⟩:=shI_ok (P:=P) (w:=w) (ky:=k2) t h
     have e1:=hx.int
     have e2:=hy.int
     exact .inl ⟨v,w,m,_,H,.inl (by simp [execOp,e1,e2,eqGuard_int,hrun]),.d _ _ (hR _),hh,.refl _ _ _,hkd⟩
    | false =>
    rw [hsh] at h
    simp only [cond_false] at h
    cases hk:decide (k1=k2) with
    | false=>rw [hk] at h; exact h.elim
    | true =>
     rw [hk] at h
     have:=of_decide_eq_true hk
     subst this
     simp only [cond_true] at h
     obtain ⟨v,d,hrun,hR,hkd⟩:=biI_ok (P:=P) (w:=w) t h
     have e1:=hx.int
     have e2:=hy.int
     exact .inl ⟨v,w,m,_,H,.inl (by simp [execOp,e1,e2,eqGuard_int,hrun]),.d _ _ (hR _),hh,.refl _ _ _,hkd⟩
   ·exact h.elim
  ·exact other h
 | convert src t x =>
  obtain ⟨ls,_,us,_,hls,h⟩:=liK_ok hL h
  obtain ⟨li,i,u,z,hl,h⟩:=liK_ok hL h
  cases hsl:li.sl with
  | true =>
   rw [hsl] at h
   obtain ⟨le,ie,ue,ze,hle,h⟩:=liK_ok hL h
   exact VOK.next (cvT_ok hls.und hl hle (ho x) hh h)
  | false =>
  rw [hsl] at h
  simp only [cond_false] at h
  cases hss:ls.sl with
  | true =>
   rw [hss] at h
   obtain ⟨le,ie,ue,ze,hle,h⟩:=liK_ok hL h
   exact VOK.next (cvS_ok hls hss hl hle (ho x) hh h)
  | false =>
  rw [hss] at h
  simp only [cond_false] at h
  unfold cvP at h
  have hx:=ho x
  split at h
  ·rename_i k0 n hx'
   rw [hx'] at hx
   split at h
   ·rename_i kk hk
    have hik:=hl.ik
    rw [hk] at hik
    have hu:u=.int kk:=by
     cases u <;> simp [ikOf] at hik
     rw [hik]
    have hund:=hl.und
    rw [hu] at hund
    have hus:=hls.und
    have:=hx.int
    rw [arS_iff] at h
    exact .inl ⟨_,w,m,_,H,.inl (by simp [execOp,this,Go.convert,underlying,hund,hus,Conv.intToInt]),.d _ _ (.i kk (kk.wrap n)),hh,.refl _ _ _,h⟩
   ·exact h.elim
  ·exact h.elim
 | unOp op t x =>
  simp only [stepP] at h
  unfold unP at h
  have hx:=ho x
  cases op with
  | not =>
   cases hx':opd T x with
   | d y =>
    rw [hx'] at h hx
    cases y with
    | b b =>
     have:=hx.bool
     exact .inl ⟨_,w,m,_,H,.inl (by simp [execOp,this,Op.unary]),.d _ _ (.b (!b)),hh,.refl _ _ _,h⟩
    | _=>exact h.elim
   | _=>rw [hx'] at h; exact h.elim
  | neg =>
   cases hx':opd T x with
   | d y =>
    rw [hx'] at h hx
    cases y with
    | i kk n =>
     have:=hx.int
     dsimp only at h
     simp only [arS_iff] at h
     exact .inl ⟨_,w,m,_,H,.inl (by simp [execOp,this,Op.unary,Op.intArith]),.d _ _ (.i kk (kk.wrap (0 - n))),hh,.refl _ _ _,h⟩
    | _=>exact h.elim
   | _=>rw [hx'] at h; exact h.elim
  | _=>exact h.elim
 | makeFunc fn first captured =>
  cases fn with
  | func f =>
   simp only [stepP] at h
   cases hf:Nat.beq first.size 0 with
   | false =>
    rw [hf] at h
    simp only [cond_false] at h
    cases hc:Nat.beq captured.size 0 with
    | false=>rw [hc] at h; exact h.elim
    | true =>
     rw [hc] at h
     have hce:captured=#[]:=Array.eq_empty_of_size_eq_zero (Nat.eq_of_beq_eq_true hc)
     subst hce
     obtain ⟨h1,h2⟩:=hargs first
     simp only [cond_true] at h
     obtain ⟨av,hV,hk⟩:=cloM_ok h h1 h2
     exact .inl ⟨_,w,m,av,H,.inl (by simp [execOp,Instr.makeFunc]),hV,hh,.refl _ _ _,hk⟩
   | true =>
    rw [hf] at h
    have hf:=Nat.eq_of_beq_eq_true hf
    have hfe:first=#[]:=Array.eq_empty_of_size_eq_zero hf
    subst hfe
    obtain ⟨h1,h2⟩:=hargs captured
    simp only [cond_true] at h
    obtain ⟨av,hV,hk⟩:=cloK_ok h h1 h2
    exact .inl ⟨_,w,m,av,H,.inl (by simp [execOp,Instr.makeFunc]),hV,hh,.refl _ _ _,hk⟩
  | _=>exact h.elim
 | makeSlice t n c =>
  obtain ⟨li,i,u,z,hl,hs,h⟩:=slice_of_li hL h
  obtain ⟨le,ie,ue,ze,hle,h⟩:=liK_ok hL h
  exact VOK.next (ms_ok hl hs hle hh (ho n) (ho c) h)
 | slice t x lo hi mx =>
  cases mx with
  | none =>
   obtain ⟨li,i,u,z,hl,h⟩:=liK_ok hL h
   have g1:∀ a0,lo.map (opd T)=some a0→∃ va,lo.map a.eval=some va∧V X m w va a0:=fun b hb=>by
    cases lo with
    | none=>cases hb
    | some l=>simp at hb; subst hb; exact ⟨_,rfl,ho l⟩
   have g2:lo.map (opd T)=none→lo.map a.eval=none:=fun hb=>by
    cases lo with
    | none=>rfl
    | some l=>cases hb
   have g3:∀ a0,hi.map (opd T)=some a0→∃ va,hi.map a.eval=some va∧V X m w va a0:=fun b hb=>by
    cases hi with
    | none=>cases hb
    | some l=>simp at hb; subst hb; exact ⟨_,rfl,ho l⟩
   have g4:hi.map (opd T)=none→hi.map a.eval=none:=fun hb=>by
    cases hi with
    | none=>rfl
    | some l=>cases hb
   cases hs:li.sl with
   | true =>
    rw [hs] at h
    obtain ⟨le,ie,ue,ze,hle,h⟩:=liK_ok hL h
    exact VOK.next (sl2_ok hl hs hle (ho x) g1 g2 g3 g4 hh h)
   | false =>
    rw [hs] at h
    cases ha:li.ar with
    | true =>
     rw [ha] at h
     obtain ⟨le,ie,ue,ze,hle,h⟩:=liK_ok hL h
     exact VOK.next (slA_ok hl ha hle (ho x) g2 g3 hh h)
    | false =>
     rw [ha] at h
     exact VOK.next (slT_ok hl (ho x) g1 g2 g3 g4 hh h)
  | some _=>exact h.elim
 | makeMap t r =>
  cases r with
  | some _=>exact h.elim
  | none =>
   obtain ⟨li,i,u,z,hl,h⟩:=liK_ok hL h
   exact VOK.next (mkM_ok (P:=P) hh h)
 | lookup t x i c =>
  cases c with
  | true=>exact h.elim
  | false =>
   obtain ⟨li,_,u,z,hl,h⟩:=liK_ok hL h
   obtain ⟨lk,ik,uk,zk,hlk,h⟩:=liK_ok hL h
   obtain ⟨le,ie,ue,ze,hle,h⟩:=liK_ok hL h
   exact VOK.next (lk_ok hl hlk hle (ho x) (ho i) hh h)
 | mapUpdate t x i v =>
  obtain ⟨li,_,u,z,hl,h⟩:=liK_ok hL h
  obtain ⟨lk,ik,uk,zk,hlk,h⟩:=liK_ok hL h
  obtain ⟨w',H',h1,h2,h3,h4⟩:=mu_ok hl hlk (ho x) (ho i) (ho v) hh h
  exact .inl ⟨undef,w',m,.un,H',.inr ⟨by simp [execOp,h1],rfl⟩,.un _,h2,h3,h4⟩
 | fieldAddr t x f =>
  obtain ⟨li,i,u,z,hl,h⟩:=liK_ok hL h
  exact VOK.next (fa_ok hl (ho x) hh h)
 | indexAddr t x i =>
  obtain ⟨li,_,u,z,hl,h⟩:=liK_ok hL h
  cases hs:li.sl with
  | true =>
   rw [hs] at h
   obtain ⟨le,ie,ue,ze,hle,h⟩:=liK_ok hL h
   exact VOK.next (ia_ok hl hs hle (ho x) (ho i) hh h)
  | false =>
   rw [hs] at h
   cases ha:li.ar with
   | true =>
    rw [ha] at h
    obtain ⟨le,ie,ue,ze,hle,h⟩:=liK_ok hL h
    exact VOK.next (iaA_ok hl ha hle (ho x) (ho i) hh h)
   | false=>rw [ha] at h; exact h.elim
 | index t x i =>
  obtain ⟨li,_,u,z,hl,h⟩:=liK_ok hL h
  exact VOK.next (ixT_ok hl (ho x) (ho i) hh h)
 | extract t i =>
  simp only [stepP] at h
  have ht:=ho t
  cases hx:opd T t with
  | tp vs =>
   rw [hx] at h ht
   obtain ⟨v,hv,h⟩:=nthK_ok h
   cases ht':a.eval t with
   | tuple us =>
    rw [ht'] at ht
    cases ht with
    | tp _ _ hl hvv =>
     have hlt:i < us.size:=by rw [hl]; exact (List.getElem?_eq_some_iff.1 hv).1
     exact .inl ⟨us[i],w,m,v,H,.inl (by simp [execOp,ht',Instr.extract,hlt]),hvv i _ _ (by simp [hlt]) hv,hh,.refl _ _ _,fK_ok h⟩
   | _=>rw [ht'] at ht; cases ht
  | _=>rw [hx] at h; exact h.elim
 | call c =>
  obtain ⟨callee,args,argTypes⟩:=c
  simp only [stepP] at h
  cases callee with
  | value f =>
   obtain ⟨h1,h2⟩:=hargs args
   exact caP_ok (ho f) h1 h2 hh h
  | invoke r n=>exact h.elim
  | builtin b =>
   obtain ⟨h1,h2⟩:=hargs args
   obtain ⟨args⟩:=args
   obtain ⟨ts⟩:=argTypes
   cases b with
   | len =>
    simp only [buiP] at h
    match args,ts,h with
    | [x],[t],h =>
     obtain ⟨li,i,u,z,hl,h⟩:=liK_ok hL h
     simpa [execOp,resolve,invoke,builtin] using VOK.next (len_ok (ty:=type) hl (ho x) hh h)
   | append =>
    simp only [buiP] at h
    match args,ts,h with
    | [s,x],[t,tx],h =>
     obtain ⟨li,i,u,z,hl,hs,h⟩:=slice_of_li hL h
     obtain ⟨le,ie,ue,ze,hle,h⟩:=liK_ok hL h
     obtain ⟨lx,ix,ux,zx,hlx,h⟩:=liK_ok hL h
     cases hsx:lx.sl with
     | true =>
      rw [hsx] at h
      have hux:=hlx.slice hsx
      subst hux
      simpa [execOp,resolve,invoke,builtin] using VOK.next (ap_ok (ty:=type) hl hs hle hlx.und (ho s) (ho x) hh h)
     | false =>
      rw [hsx] at h
      simp only [cond_false] at h
      cases hkd:Nat.beq lx.kd 4 with
      | false=>rw [hkd] at h; exact h.elim
      | true =>
       rw [hkd] at h
       have hkd:=(Nat.eq_of_beq_eq_true hkd).symm.trans hlx.kd
       have hux:∃ q,ux=.int q:=by cases ux <;> simp [kdOf] at hkd ⊢
       obtain ⟨q',hux⟩:=hux
       subst hux
       simpa [execOp,resolve,invoke,builtin] using VOK.next (apZ_ok (ty:=type) hl hs hle hlx.und (ho s) (ho x) hh h)
   | min =>
    simp only [buiP] at h
    match args,h with
    | [x,y],h=>simpa [execOp,resolve,invoke,builtin,Builtin.min_] using VOK.next (mm_ok (P:=P) (ho x) (ho y) hh h)
   | max =>
    simp only [buiP] at h
    match args,h with
    | [x,y],h=>simpa [execOp,resolve,invoke,builtin,Builtin.max_] using VOK.next (mm_ok (P:=P) (ho x) (ho y) hh h)
   | cap =>
    simp only [buiP] at h
    match args,ts,h with
    | [x],[t],h =>
     have hx:=ho x
     simp only [List.map_cons,List.map_nil] at h
     cases hx':opd T x with
     | nsl =>
      rw [hx'] at h hx
      obtain ⟨li,i,u,z,hl,hs,h⟩:=slice_of_li hL h
      have hu:=hl.slice hs
      subst hu
      have hv:a.eval x=.slice none 0 0:=by generalize a.eval x=v at hx; cases hx; rfl
      exact .inl ⟨.int .i64 0,w,m,_,H,.inl (by simp [execOp,resolve,invoke,builtin,Builtin.cap_,underlying,hl.und,hv,goInt]),.d _ _ (.i _ _),hh,.refl _ _ _,h⟩
     | _=>rw [hx'] at h; exact h.elim
   | _=>exact h.elim
 | typeAssert x xt t ok =>
  obtain ⟨v,c,h1,h2,h3,h4⟩:=h
  have hx:=ho x
  rw [h1] at hx
  have hxe:a.eval x=.iface t v:=by
   generalize a.eval x=u at hx
   cases hx; rfl
  have hv:V X m w v c:=closedV_mk h3
  refine .inl ⟨if ok then .tuple #[v,.bool true] else v,w,m,_,H,.inl ?_,?_,hh,.refl _ _ _,h4⟩
  ·simp only [execOp,hxe]
   rw [Sem.run_bind,assert_run h2]; rfl
  ·cases ok with
   | false=>exact hv
   | true =>
    refine .tp #[v,.bool true] [c,.d (.b true)] rfl fun j u c' hu hc=>?_
    match j,hu,hc with
    | 0,hu,hc=>simp at hu hc; subst hu; subst hc; exact hv
    | 1,hu,hc=>simp at hu hc; subst hu; subst hc; exact .d _ _ (.b _)
    | j+2,hu,hc=>simp at hc
 | _=>exact h.elim
end Go.Abs
