/- One operation over an abstract state, and why it is sound. No condition. -/
import Derived.Test.YthandbiapckgkaaZA20
namespace Go.Abs
variable {P:Program} {X:Nat→Prop} {m m':Mp} {H:Hp} {w w':World}
def opd (T:Tp):Operand→AV
 | .tmp t=>getT T t
 | .const v=>ofV v
 | .func f=>.d (.fn f [])
 | .global _=>.un
def Fw (ro:Option Nat):Fence:={ fn:=fun _=>True,depth:=none,alive:=false,round:=ro }
theorem Fw_none:Fw none=Fence.wide:=rfl
def EnterOK (P : Program) (f : FuncId) : Prop := ∃ fn c, P.funcs[f]? = some fn ∧ fn.body = some c ∧ (fn.name == "runtime.NumGoroutine") = false
@[irreducible] def ECall (P:Program) (f:FuncId) (args:List AV) (H:Hp) (R:AV→Hp→Prop):Prop :=
 EnterOK P f∧∀ (X:Nat→Prop) (m:Mp) (vals:Array Value) (w:World),vals.size=args.length→(∀ (j:Nat) v c,vals[j]?=some v→args[j]?=some c→V X m w v c)→HRel X m H w →
  CallsIn Fence.wide 0 P f vals w fun e w'=>∃ v m' r H',e=.returned v∧V X m' w' v r∧HRel X m' H' w'∧Ext X m w m' w'∧R r H'
def condS (x:Bool) (A B:Prop):Prop:=cond x A B
theorem condS_mk {x:Bool} {A B:Prop} (h1:x=true→A) (h2:x=false→B):condS x A B:=by
 unfold condS; cases x
 ·exact h2 rfl
 ·exact h1 rfl
theorem condS_and {x:Bool} {A B:Prop} (h:condS x A B):(x=true→A)∧(x=false→B):=by
 unfold condS at h; cases x
 ·exact ⟨(fun h=>by cases h),fun _=>h⟩
 ·exact ⟨fun _=>h,(fun h=>by cases h)⟩
def fK (x:AV) (k:AV→Prop):Prop :=
 match x with
 | .d y=>k (.d y) | .ag cs=>k (.ag cs) | .tp vs=>k (.tp vs) | .fn f c=>k (.fn f c) | .fm f c=>k (.fm f c) | .sl q1 q2 q3 q4=>k (.sl q1 q2 q3 q4) | .mr q1=>k (.mr q1) | .pt q1 q2=>k (.pt q1 q2) | .pe q1 q2 q3 q4=>k (.pe q1 q2 q3 q4)
 | .nsl=>k .nsl | .yl l=>k (.yl l) | .mx b=>k (.mx b) | .cv v=>k (.cv v) | .vw q1 q2 q3 q4=>k (.vw q1 q2 q3 q4) | .un=>k .un
theorem fK_ok {x:AV} {k:AV→Prop} (h:fK x k):k x:=by unfold fK at h; split at h <;> exact h
def eq1 (kd:Nat) (x y:D) (k:Bool→Prop):Prop :=
 match x,y with
 | .b p,.b q=>bif Nat.beq kd 1 then k (p == q) else False
 | .i k1 p,.i k2 q=>bif Nat.beq kd 4 && decide (k1=k2) then k (p == q) else False
 | .s p,.s q=>bif Nat.beq kd 2 then k (p.toList == q.toList) else False
 | _,_=>False
def eqDK:List Nat→List D→List D→(Bool→Prop)→Prop
 | [],[],[],k=>k true
 | kd::ks,x::xs,y::ys,k=>eq1 kd x y fun b=>eqDK ks xs ys fun r=>k (b && r)
 | _,_,_,_=>False
def ngK (neg:Bool) (r:Bool) (k:Bool→Prop):Prop :=
 match neg with
 | true=>k (!r)
 | false=>k r
def eqQ (neg:Bool) (li:LI) (x y:AV) (k:AV→Prop):Prop :=
 match x,y with
 | .d (.b p),.d (.b q)=>bif Nat.beq li.kd 1 then ngK neg (p == q) fun r=>k (.d (.b r)) else False
 | .d (.ag ps),.d (.ag qs)=>bif li.eqs then eqDK li.fks ps qs fun r=>ngK neg r fun r=>k (.d (.b r)) else False
 | .d (.s p),.d (.s q)=>bif Nat.beq li.kd 2 then ngK neg (p.toList == q.toList) fun r=>k (.d (.b r)) else False
 | .nsl,.nsl=>bif li.sl then ngK neg true fun r=>k (.d (.b r)) else False
 | .d (.ls es),.nsl=>bif li.sl then (∀ b:Bool,(b=true→es=[])→ngK neg b fun r=>k (.d (.b r))) else False
 | _,_=>False
def eqP (op:BinOp) (li:LI) (x y:AV) (k:AV→Prop):Prop :=
 match op with
 | .eql=>eqQ false li x y k
 | .neq=>eqQ true li x y k
 | _=>False
def biP (L:Lay) (op:BinOp) (t:TypeId) (x y:AV) (k:AV→Prop):Prop :=
 match x with
 | .d (.i k1 p)=>match y with
  | .d (.i k2 q)=>bif isSh op then shI op k1 p q fun d=>k (.d d) else bif decide (k1=k2) then biI op k1 p q fun d=>k (.d d) else False
  | _=>False
 | x=>liK L t fun li=>eqP op li x y k
def biS (L:Lay) (op:BinOp) (t:TypeId) (x y:AV) (k:AV→Prop):Prop :=
 match op,x,y with
 | .add,.d (.s p),.d (.s q)=>catX p q fun r=>k (.d (.s r))
 | op,x,y=>biP L op t x y k
theorem biS_or {L:Lay} {op:BinOp} {t:TypeId} {x y:AV} {k:AV→Prop} (h:biS L op t x y k):(∃ p q,op=.add∧x=.d (.s p)∧y=.d (.s q)∧catX p q fun r=>k (.d (.s r)))∨biP L op t x y k:=by
 unfold biS at h
 split at h
 ·exact .inl ⟨_,_,rfl,rfl,rfl,h⟩
 ·exact .inr h
def lenP (li:LI) (x:AV) (H:Hp) (k:AV→Prop):Prop :=
 match x with
 | .nsl=>bif li.sl then k (.d (.i .i64 0)) else False
 | .d (.ls es)=>bif li.sl then lnS es.length fun n=>k (.d (.i .i64 n)) else False
 | .d (.s b)=>bif Nat.beq li.kd 2 then k (.d (.i .i64 b.size)) else False
 | .sl κ _ _ n=>bif li.sl then nthK H κ fun B=>match B with
   | some _=>lnS n fun n=>k (.d (.i .i64 n))
   | none=>False
  else False
 | _=>False
def cvP (li:LI) (x:AV) (k:AV→Prop):Prop :=
 match x with
 | .d (.i _ n)=>match li.ik with
  | some kk=>arS kk n fun n=>k (.d (.i kk n))
  | none=>False
 | _=>False
def unP (op:UnOp) (x:AV) (k:AV→Prop):Prop :=
 match op with
 | .not=>match x with
  | .d (.b b)=>k (.d (.b (!b)))
  | _=>False
 | .neg=>match x with
  | .d (.i kk n)=>arS kk (0 - n) fun r=>k (.d (.i kk r))
  | _=>False
 | _=>False
def ncP (x:AV) (H:Hp) (k:AV→Prop):Prop :=
 match x with
 | .pt κ o=>nthK H κ fun B=>match B with
  | some _=>k (.pt κ o)
  | none=>False
 | .pe κ q j o=>nthK H κ fun B=>match B with
  | some _=>k (.pe κ q j o)
  | none=>False
 | .d (.ro cs)=>k (.d (.ro cs))
 | _=>False
def mmP (mx:Bool) (x y:AV) (k:AV→Prop):Prop :=
 match x with
 | .d (.i k1 p)=>match y with
  | .d (.i _ q)=>k (.d (.i k1 (bif mx then (if q > p then q else p) else (if q < p then q else p))))
  | _=>False
 | _=>False
def cloK (f:FuncId) (caps:List AV) (k:AV→Prop):Prop:=allDK caps (fun ds=>k (.d (.fn f ds))) (k (.fn f caps))
def cloM (f:FuncId) (fs:List AV) (k:AV→Prop):Prop:=allDK fs (fun ds=>k (.d (.fm f ds))) (k (.fm f fs))
def caP (P:Program) (f:AV) (args:List AV) (H:Hp) (k:AV→Hp→Prop):Prop :=
 match f with
 | .d (.fn g caps)=>ECall P g (args++caps.map .d) H k
 | .fn g caps=>ECall P g (args++caps) H k
 | .d (.fm g fs)=>ECall P g (fs.map .d++args) H k
 | .fm g fs=>ECall P g (fs++args) H k
 | _=>False
def buiP (L:Lay) (b:Builtin) (ts:List TypeId) (args:List AV) (H:Hp) (k:AV→Hp→Prop):Prop :=
 match b with
 | .len=>match args,ts with
  | [x],[t]=>liK L t fun li=>lenP li x H fun v=>k v H
  | _,_=>False
 | .append=>match args,ts with
  | [s,x],[t,tx]=>liK L t fun li=>bif li.sl then liK L li.elem fun le=>liK L tx fun lx=>bif lx.sl then apP le s x H k else bif Nat.beq lx.kd 4 then apZ le s x H k else False else False
  | _,_=>False
 | .min=>match args with
  | [x,y]=>mmP false x y fun v=>k v H
  | _=>False
 | .max=>match args with
  | [x,y]=>mmP true x y fun v=>k v H
  | _=>False
 | .cap=>match args,ts with
  | [x],[t]=>match x with
   | .nsl=>liK L t fun li=>bif li.sl then k (.d (.i .i64 0)) H else False
   | _=>False
  | _,_=>False
 | _=>False
def closedV:AV→Option Value
 | .d (.ag [])=>some (.agg #[])
 | .d (.i k n)=>some (.int k n)
 | _=>none
def ifaceB (P:Program) (t:TypeId):Bool:=match P.underlying t with
 | some (.interface _)=>false
 | some _=>true
 | none=>false
def stepP (P:Program) (L:Lay) (op:Op) (T:Tp) (H:Hp) (k:AV→Hp→Prop):Prop :=
 match op with
 | .move x | .assign x=>fK (opd T x) fun v=>k v H
 | .pick c a b=>match opd T c with
  | .d (.b x)=>condS x (fK (opd T a) fun v=>k v H) (fK (opd T b) fun v=>k v H)
  | _=>False
 | .alloc t=>liK L t fun li=>bif li.ar then orB (liK L li.elem fun le=>bif Nat.beq le.size 1 then alA le li H k else alP li H k) (alP li H k) else alP li H k
 | .box _ x=>boP (opd T x) H k
 | .build t parts=>liK L t fun li=>bif li.ar then liK L li.elem fun le=>blA le li (parts.toList.map fun p=>(p.1,opd T p.2)) fun v=>k v H else blP li (parts.toList.map fun p=>(p.1,opd T p.2)) fun v=>k v H
 | .buildSlice t n parts=>liK L t fun li=>bif li.sl then liK L li.elem fun le=>bsP le n (parts.toList.map fun p=>(p.1,opd T p.2)) H k else False
 | .load t x=>liK L t fun li=>ldP li (opd T x) H fun v=>k v H
 | .store t x v=>liK L t fun li=>stP2 li (opd T x) (opd T v) H fun H'=>k .un H'
 | .nilCheck x=>ncP (opd T x) H fun v=>k v H
 | .binOp op t x y _=>biS L op t (opd T x) (opd T y) fun v=>k v H
 | .unOp op _ x=>unP op (opd T x) fun v=>k v H
 | .convert s t x=>liK L s fun ls=>liK L t fun li=>bif li.sl then liK L li.elem fun le=>cvT li le (opd T x) fun v=>k v H else bif ls.sl then liK L ls.elem fun le=>cvS le li (opd T x) fun v=>k v H else cvP li (opd T x) fun v=>k v H
 | .index t x i=>liK L t fun li=>ixT li (opd T x) (opd T i) fun v=>k v H
 | .makeFunc (.func f) first captured=>bif Nat.beq first.size 0 then cloK f (captured.toList.map (opd T)) fun v=>k v H else bif Nat.beq captured.size 0 then cloM f (first.toList.map (opd T)) fun v=>k v H else False
 | .makeSlice t n c=>liK L t fun li=>bif li.sl then liK L li.elem fun le=>msP le (opd T n) (opd T c) H k else False
 | .slice t x lo hi mx=>match mx with
  | none=>liK L t fun li=>bif li.sl then liK L li.elem fun le=>slP2 le.size (opd T x) (lo.map (opd T)) (hi.map (opd T)) H k else bif li.ar then liK L li.elem fun le=>slA le li (opd T x) (lo.map (opd T)) (hi.map (opd T)) H k else slT li (opd T x) (lo.map (opd T)) (hi.map (opd T)) fun v=>k v H
  | some _=>False
 | .makeMap t r=>match r with
  | none=>liK L t fun li=>mkP li H k
  | some _=>False
 | .lookup t x i c=>match c with
  | false=>liK L t fun li=>liK L li.alen fun lk=>liK L li.elem fun le=>lkP li lk le (opd T x) (opd T i) H fun v=>k v H
  | true=>False
 | .mapUpdate t x i v=>liK L t fun li=>liK L li.alen fun lk=>muP li lk (opd T x) (opd T i) (opd T v) H fun H'=>k .un H'
 | .fieldAddr t x f=>liK L t fun li=>faP li f (opd T x) H fun v=>k v H
 | .indexAddr t x i=>liK L t fun li=>bif li.sl then liK L li.elem fun le=>iaP le.size (opd T x) (opd T i) H fun v=>k v H else bif li.ar then liK L li.elem fun le=>iaA le li (opd T x) (opd T i) H fun v=>k v H else False
 | .extract t i=>match opd T t with
  | .tp vs=>nthK vs i fun v=>fK v fun v=>k v H
  | _=>False
 | .call c=>match c.callee with
  | .value f=>caP P (opd T f) (c.args.toList.map (opd T)) H k
  | .builtin b=>buiP L b c.argTypes.toList (c.args.toList.map (opd T)) H k
  | _=>False
 | .typeAssert x _ t ok=>∃ v c,opd T x=.cv (.iface t v)∧ifaceB P t=true∧closedV c=some v∧k (bif ok then .tp [c,.d (.b true)] else c) H
 | _=>False
def NOK (P:Program) (X:Nat→Prop) (m:Mp) (w:World) (s:Sem Next) (k:AV→Hp→Prop):Prop :=
 (∃ v w' m' av H',(s.run P w=.ok (Next.value v) w'∨(s.run P w=.ok Next.skip w'∧v=undef))∧V X m' w' v av∧HRel X m' H' w'∧Ext X m w m' w'∧k av H') ∨
 (∃ f args,s.run P w=.ok (Next.enter f args) w∧CallsIn Fence.wide 0 P f args w fun e w'=>∃ v m' r H',e=.returned v∧V X m' w' v r∧HRel X m' H' w'∧Ext X m w m' w'∧k r H')
theorem VOK.next {s:Sem Value} {k:AV→Hp→Prop} (h:VOK P X m w s k):NOK P X m w (s >>= fun x=>Pure.pure (Next.value x)) k:=by
 obtain ⟨v,w',m',av,H',hr,h1,h2,h3,h4⟩:=h
 exact .inl ⟨v,w',m',av,H',.inl (by simp [hr]),h1,h2,h3,h4⟩
theorem V.int {v:Value} {kk:IntKind} {n:Int} (h:V X m w v (.d (.i kk n))):v=.int kk n:=by cases h with | d _ _ hr=>cases hr; rfl
theorem V.bool {v:Value} {b:Bool} (h:V X m w v (.d (.b b))):v=.bool b:=by cases h with | d _ _ hr=>cases hr; rfl
theorem V.str {v:Value} {b:ByteArray} (h:V X m w v (.d (.s b))):v=.string b:=by cases h with | d _ _ hr=>cases hr; rfl
theorem closedV_ok {v u:Value} {x:AV} (h:V X m w v x) (hx:closedV x=some u):v=u:=by
 unfold closedV at hx
 split at hx
 ·cases hx
  cases h with
  | d _ _ hr =>
   cases hr with
   | ag vs cs hl h1 h =>
    have:vs.size=0:=hl
    rw [Array.eq_empty_of_size_eq_zero this]
 ·cases hx
  exact V.int h
 ·cases hx
theorem closedV_mk {v:Value} {x:AV} (hx:closedV x=some v):V X m w v x:=by
 unfold closedV at hx
 split at hx
 ·cases hx; exact .d _ _ (.ag #[] [] rfl (fun j v h=>by simp at h) fun j v c h=>by simp at h)
 ·cases hx; exact .d _ _ (.i _ _)
 ·cases hx
theorem assert_run {xt t:TypeId} (h:ifaceB P t=true) (v:Value) (ok:Bool):(Instr.typeAssert (.iface t v) xt t ok).run P w=.ok (if ok then .tuple #[v,.bool true] else v) w:=by
 unfold ifaceB at h
 cases hu:P.underlying t with
 | none=>rw [hu] at h; cases h
 | some u =>
  rw [hu] at h
  cases u with
  | interface _=>cases h
  | _=>simp [Instr.typeAssert,underlying,hu]
theorem opd_ok [Inhabited DSt] {mb:Mp} {wb:World} {N:Nat} {T:Tp} {a:Act} (h:Rel X mb wb N m T H a w) (x:Operand):V X m w (a.eval x) (opd T x):=by
 cases x with
 | tmp t=>exact h.tmp t
 | const v=>exact V.ofV v
 | global g=>exact .un _
 | func f=>exact .d _ _ (.fn f #[] [] rfl (fun j v c h=>by simp at h))
theorem eq1_ok {kd:Nat} {x y:D} {k:Bool→Prop} (h:eq1 kd x y k) {I:Nat→Prop} {vx vy:Value} (hx:Rd I w vx x) (hy:Rd I w vy y) {t:TypeId} {u:TypeDesc} {d:Nat}
  (ht:P.underlying t=some u) (hk:kd=kdOf u):∃ b,(Op.equalIn (d+1) t vx vy).run P w=.ok b w∧k b:=by
 cases hx with
 | b p =>
  cases hy with
  | b q =>
   simp only [eq1] at h
   cases hq:Nat.beq kd 1 with
   | false=>rw [hq] at h; exact h.elim
   | true =>
    rw [hq] at h
    have:=Nat.eq_of_beq_eq_true hq
    subst this
    have hu:u=.bool:=by cases u <;> simp [kdOf] at hk ⊢
    subst hu
    exact ⟨_,run_equalIn_bool' w d t p q ht,h⟩
  | _=>exact h.elim
 | i k1 p =>
  cases hy with
  | i k2 q =>
   simp only [eq1] at h
   cases hq:Nat.beq kd 4 && decide (k1=k2) with
   | false=>rw [hq] at h; exact h.elim
   | true =>
    rw [hq] at h
    simp only [Bool.and_eq_true] at hq
    have:=Nat.eq_of_beq_eq_true hq.1
    subst this
    have:=of_decide_eq_true hq.2
    subst this
    have hu:∃ q,u=.int q:=by cases u <;> simp [kdOf] at hk ⊢
    obtain ⟨q',hu⟩:=hu
    subst hu
    exact ⟨_,run_equalIn_int w d t k1 q' p q ht,h⟩
  | _=>exact h.elim
 | s p =>
  cases hy with
  | s q =>
   simp only [eq1] at h
   cases hq:Nat.beq kd 2 with
   | false=>rw [hq] at h; exact h.elim
   | true =>
    rw [hq] at h
    have:=Nat.eq_of_beq_eq_true hq
    subst this
    have hu:u=.string:=by cases u <;> simp [kdOf] at hk ⊢
    subst hu
    exact ⟨_,run_equalIn_string w d t p q ht,h⟩
  | _=>exact h.elim
 | _=>exact h.elim
theorem len_ok {t ty:TypeId} {li:LI} {i:TypeInfo} {u:TypeDesc} {z:Value} (hl:LIs P t li i u z) {x:AV} {v:Value} {k:AV→Hp→Prop} (hv:V X m w v x) (hh:HRel X m H w) (h:lenP li x H fun a=>k a H) :
  VOK P X m w (Builtin.len_ #[t] ty #[v]) k:=by
 have hslice:∀ base n cap,li.sl=true→(Builtin.len_ #[t] ty #[.slice base n cap]).run P w=.ok (.int .i64 n) w:=by
  intro base n cap hs
  have:=hl.slice hs
  subst this
  simp [Builtin.len_,underlying,hl.und,goInt]
 unfold lenP at h
 simp only [lnS_iff] at h
 cases hv with
 | nsl =>
  dsimp only at h
  cases hs:li.sl with
  | false=>rw [hs] at h; exact h.elim
  | true=>rw [hs] at h; exact .pure (hslice none 0 0 hs) (.d _ _ (.i _ _)) hh h
 | d _ x hr =>
  cases hr with
  | nil =>
   dsimp only at h
   cases hs:li.sl with
   | false=>rw [hs] at h; exact h.elim
   | true=>rw [hs] at h; exact .pure (hslice none 0 0 hs) (.d _ _ (.i _ _)) hh h
  | lz a =>
   dsimp only at h
   cases hs:li.sl with
   | false=>rw [hs] at h; exact h.elim
   | true=>rw [hs] at h; exact .pure (hslice (some a) 0 0 hs) (.d _ _ (.i _ _)) hh h
  | ls bk off cap q es vs hI hc hk hw hvs =>
   dsimp only at h
   cases hs:li.sl with
   | false=>rw [hs] at h; exact h.elim
   | true=>rw [hs] at h; exact .pure (hslice _ _ _ hs) (.d _ _ (.i _ _)) hh h
  | s b =>
   dsimp only at h
   cases hs:Nat.beq li.kd 2 with
   | false=>rw [hs] at h; exact h.elim
   | true =>
    rw [hs] at h
    have hkd:=(Nat.eq_of_beq_eq_true hs).symm.trans hl.kd
    have hu:u=.string:=by cases u <;> simp [kdOf] at hkd ⊢
    subst hu
    exact .pure (by simp [Builtin.len_,underlying,hl.und,goInt]) (.d _ _ (.i .i64 b.size)) hh h
  | _=>exact h.elim
 | sl _ κ q off n hκ h1 hb0 hn0 =>
  dsimp only at h
  cases hs:li.sl with
  | false=>rw [hs] at h; exact h.elim
  | true =>
   rw [hs] at h
   replace h:=nthK_ok h
   obtain ⟨B,hB,h⟩:=h
   cases B with
   | none=>exact h.elim
   | some B =>
   rcases hh.blk κ _ hB with ⟨b,vs,el,hb,hg,hR⟩ | ⟨hm,q0,hB0⟩ | ⟨_,b,_,_,_,hb,_⟩
   ·obtain ⟨cap,e,hn,hroom⟩:=hb0 b hb
    subst e
    exact .pure (hslice _ _ _ hs) (.d _ _ (.i _ _)) hh h
   ·obtain ⟨e,h0⟩:=hn0 hm
    subst e; subst h0
    exact .pure (hslice none 0 0 hs) (.d _ _ (.i _ _)) hh h
   ·obtain ⟨cap,e,hn,hroom⟩:=hb0 b hb
    subst e
    exact .pure (hslice _ _ _ hs) (.d _ _ (.i _ _)) hh h
 | _=>exact h.elim
theorem nc_ok {x:AV} {v:Value} {k:AV→Hp→Prop} (hv:V X m w v x) (hh:HRel X m H w) (h:ncP x H fun a=>k a H):(∃ a,v=.pointer (some a))∧k x H:=by
 unfold ncP at h
 cases hv with
 | pt _ κ o hκ h1 hp h0 =>
  replace h:=nthK_ok h
  obtain ⟨B,hB,h⟩:=h
  cases B with
  | none=>exact h.elim
  | some B =>
  obtain ⟨b,hb⟩:=hh.blk_of hB h0
  exact ⟨⟨_,hp b hb⟩,h⟩
 | pe _ κ q j o hκ h1 hp h0 =>
  replace h:=nthK_ok h
  obtain ⟨B,hB,h⟩:=h
  cases B with
  | none=>exact h.elim
  | some B =>
  obtain ⟨b,hb⟩:=hh.blk_of hB h0
  exact ⟨⟨_,hp b hb⟩,h⟩
 | d _ x hr =>
  cases hr with
  | ro bk off cs vs hI hw hvs=>exact ⟨⟨_,rfl⟩,h⟩
  | _=>exact h.elim
 | _=>exact h.elim
theorem eqFields_ok {d:Nat} {xs ys:Array Value} {ps qs:List D} {I:Nat→Prop} (hx:xs.size=ps.length∧∀ (j:Nat) v c,xs[j]?=some v→ps[j]?=some c→Rd I w v c) (hy:ys.size=qs.length∧∀ (j:Nat) v c,ys[j]?=some v→qs[j]?=some c→Rd I w v c) :
  ∀ (fl : List Field) (i : Nat) {k : Bool → Prop}, (∀ f j, (f, j) ∈ fl.zipIdx i → (f.name != "_" && f.offset == j && P.cellsOf f.type == 1 && plainD (P.underlying f.type)) = true) →
   eqDK (fl.map (fkOf P)) (ps.drop i) (qs.drop i) k→∃ r,(Op.eqFields (d+1) xs ys fl).run P w=.ok r w∧k r
 | [],i,k,_,h=>by
  cases hp:ps.drop i with
  | nil =>
   rw [hp] at h
   cases hq:qs.drop i with
   | nil=>rw [hq] at h; exact ⟨true,rfl,h⟩
   | cons q qq=>rw [hq] at h; exact h.elim
  | cons p pp=>rw [hp] at h; exact h.elim
 | f::fl,i,k,hf,h=>by
  have h0:=hf f i (by simp [List.zipIdx_cons])
  simp only [Bool.and_eq_true] at h0
  obtain ⟨⟨⟨hn,ho⟩,_⟩,hu⟩:=h0
  have hn : f.name ≠ "_" := by simpa using hn
  have ho:f.offset=i:=by simpa using ho
  rw [List.map_cons] at h
  cases hp:ps.drop i with
  | nil=>rw [hp] at h; exact h.elim
  | cons p pp =>
  cases hq:qs.drop i with
  | nil=>rw [hp,hq] at h; exact h.elim
  | cons q qq =>
  rw [hp,hq] at h
  have hpi:ps[i]?=some p:=by have:=congrArg (·[0]?) hp; simpa using this
  have hqi:qs[i]?=some q:=by have:=congrArg (·[0]?) hq; simpa using this
  have hxl:i < xs.size:=by rw [hx.1]; exact (List.getElem?_eq_some_iff.1 hpi).1
  have hyl:i < ys.size:=by rw [hy.1]; exact (List.getElem?_eq_some_iff.1 hqi).1
  have hvx:=hx.2 i xs[i] p (by simp [hxl]) hpi
  have hvy:=hy.2 i ys[i] q (by simp [hyl]) hqi
  have hpp:ps.drop (i+1)=pp:=by have:=congrArg List.tail hp; simpa using this
  have hqq:qs.drop (i+1)=qq:=by have:=congrArg List.tail hq; simpa using this
  cases hud:P.underlying f.type with
  | none=>rw [hud] at hu; simp [plainD] at hu
  | some t' =>
  have hfk:fkOf P f=kdOf t':=by simp [fkOf,hud]
  rw [hfk] at h
  have hagg:(isAgg f.type).run P w=.ok false w:=by
   rw [hud] at hu
   cases t' <;> simp [plainD] at hu <;> simp [isAgg,underlying,hud]
  have h1:∃ b,(Op.equalIn (d+1) f.type xs[i] ys[i]).run P w=.ok b w∧eqDK (fl.map (fkOf P)) pp qq (fun r=>k (b && r)) :=
   eq1_ok (k:=fun b=>eqDK (fl.map (fkOf P)) pp qq (fun r=>k (b && r))) h hvx hvy hud rfl
  obtain ⟨b,hrun,h⟩:=h1
  have hpart:∀ zs:Array Value,(hz:i < zs.size)→(part f.type zs f.offset).run P w=.ok zs[i] w:=by
   intro zs hz
   simp [part,hagg,ho,hz]
  obtain ⟨r,hr,hk⟩:=eqFields_ok (d:=d) hx hy fl (i+1) (fun g j hg=>hf g j (by rw [List.zipIdx_cons]; exact List.mem_cons_of_mem _ hg)) (by rw [hpp,hqq]; exact h)
  refine ⟨b && r,?_,hk⟩
  simp only [Op.eqFields]
  rw [if_pos hn]
  cases b with
  | true=>simp [hpart xs hxl,hpart ys hyl,hrun,hr]
  | false=>simp [hpart xs hxl,hpart ys hyl,hrun]
theorem eqGuard_bool {op:BinOp} {t:TypeId} {x y:Operand} {p q:Bool}:(eqGuard op t x y (.bool p) (.bool q)).run P w=.ok () w:=by
 cases op <;> simp [eqGuard]
theorem eqGuard_int {op:BinOp} {t:TypeId} {x y:Operand} {k1 k2:IntKind} {p q:Int}:(eqGuard op t x y (.int k1 p) (.int k2 q)).run P w=.ok () w:=by
 cases op <;> simp [eqGuard]
theorem run_equalIn_nil {t e:TypeId} (hund:P.underlying t=some (.slice e)) (d:Nat) (o:Option Addr) (n c:Nat):(Op.equalIn (d+1) t (.slice o n c) (.slice none 0 0)).run P w=.ok o.isNone w:=by
 cases o <;> simp [Op.equalIn,underlying,hund]
theorem eqNil_ok {neg:Bool} {t:TypeId} {li:LI} {i:TypeInfo} {u:TypeDesc} {z:Value} (hl:LIs P t li i u z) {ox oy:Operand} {k:AV→Hp→Prop} (hh:HRel X m H w) (hsl:li.sl=true) (o:Option Addr) (n c:Nat) (h:ngK neg o.isNone fun r=>k (.d (.b r)) H) :
  VOK P X m w (do eqGuard (bif neg then .neq else .eql) t ox oy (.slice o n c) (.slice none 0 0); binOp (bif neg then .neq else .eql) t (.slice o n c) (.slice none 0 0)) k:=by
 have hu:=hl.slice hsl
 have hund:=hl.und
 rw [hu] at hund
 have h1:∀ op,(eqGuard op t ox oy (.slice o n c) (.slice none 0 0)).run P w=.ok () w:=fun op=>by cases op <;> simp [eqGuard]
 have h2:=run_equalIn_nil (w:=w) hund 9999 o n c
 cases neg with
 | false=>exact .pure (by simp [h1,binOp,Op.equal,Op.maxDepth,h2]) (.d _ _ (.b _)) hh h
 | true=>exact .pure (by simp [h1,binOp,Op.equal,Op.maxDepth,h2]) (.d _ _ (.b _)) hh h
theorem eqQ_ok {neg:Bool} {t:TypeId} {li:LI} {i:TypeInfo} {u:TypeDesc} {z:Value} (hl:LIs P t li i u z) {ox oy:Operand} {x y:AV} {vx vy:Value} {k:AV→Hp→Prop} (hx:V X m w vx x) (hy:V X m w vy y) (hh:HRel X m H w)
  (h:eqQ neg li x y fun a=>k a H):VOK P X m w (do eqGuard (bif neg then .neq else .eql) t ox oy vx vy; binOp (bif neg then .neq else .eql) t vx vy) k:=by
 cases hx with
 | nsl =>
  cases hy with
  | nsl =>
   simp only [eqQ] at h
   cases hs:li.sl with
   | false=>rw [hs] at h; exact h.elim
   | true=>rw [hs] at h; exact eqNil_ok hl hh hs none 0 0 h
  | _=>exact h.elim
 | d _ x hrx =>
  cases hy with
  | nsl =>
   cases hs:li.sl with
   | false=>cases hrx <;> first | exact h.elim | (simp only [eqQ,hs] at h; exact h.elim)
   | true =>
    cases hrx with
    | nil=>simp only [eqQ,hs,cond_true] at h; exact eqNil_ok hl hh hs none 0 0 (h true fun _=>trivial)
    | lz a=>simp only [eqQ,hs,cond_true] at h; exact eqNil_ok hl hh hs (some a) 0 0 (h false fun _=>trivial)
    | ls bk off cap kk es vs=>simp only [eqQ,hs,cond_true] at h; exact eqNil_ok hl hh hs (some _) _ _ (h false fun h=>by cases h)
    | _=>exact h.elim
  | d _ y hry =>
   cases hrx with
   | b p =>
    cases hry with
    | b q =>
     simp only [eqQ] at h
     cases hkd:Nat.beq li.kd 1 with
     | false=>rw [hkd] at h; exact h.elim
     | true =>
      rw [hkd] at h
      have hkd:=(Nat.eq_of_beq_eq_true hkd).symm.trans hl.kd
      have hu:u=.bool:=by cases u <;> simp [kdOf] at hkd ⊢
      subst hu
      have hg:=fun op=>eqGuard_bool (P:=P) (w:=w) (op:=op) (t:=t) (x:=ox) (y:=oy) (p:=p) (q:=q)
      cases neg with
      | false=>exact .pure (by simp [hg,binOp,Op.equal,Op.maxDepth,run_equalIn_bool' w 9999 t p q hl.und]) (.d _ _ (.b _)) hh h
      | true=>exact .pure (by simp [hg,binOp,Op.equal,Op.maxDepth,run_equalIn_bool' w 9999 t p q hl.und]) (.d _ _ (.b _)) hh h
    | _=>exact h.elim
   | s p =>
    cases hry with
    | s q =>
     simp only [eqQ] at h
     cases hkd:Nat.beq li.kd 2 with
     | false=>rw [hkd] at h; exact h.elim
     | true =>
      rw [hkd] at h
      cases neg with
      | false=>exact .pure (by simp [eqGuard,binOp,Op.stringOp]) (.d _ _ (.b _)) hh h
      | true=>exact .pure (by simp [eqGuard,binOp,Op.stringOp]) (.d _ _ (.b _)) hh h
    | _=>exact h.elim
   | ag xs ps hxl _ hxv =>
    cases hry with
    | ag ys qs hyl _ hyv =>
     simp only [eqQ] at h
     cases he:li.eqs with
     | false=>rw [he] at h; exact h.elim
     | true =>
      rw [he] at h
      have he2:=he.symm.trans hl.eqs
      cases u with
      | struct fs =>
       simp only [eqsOf] at he2
       have he2:=he2.symm
       simp only [Bool.and_eq_true,Bool.not_eq_true',List.all_eq_true] at he2
       obtain ⟨⟨hf,hst⟩,hgd⟩:=he2
       have hfk:=hl.fks
       simp only [fksOf] at hfk
       simp only [cond_true] at h
       rw [hfk] at h
       obtain ⟨r,hr,hk⟩:=eqFields_ok (P:=P) (w:=w) (d:=9998) ⟨hxl,hxv⟩ ⟨hyl,hyv⟩ fs.toList 0 (fun f j hfj=>by
        have:=hf (f,j) hfj
        simpa only [Bool.and_eq_true] using this) (by simpa using h)
       have hfo:P.fieldsOf t=fs:=by simp [Program.fieldsOf,hl.und]
       have heq:=run_equalIn_struct (P:=P) w 9999 t xs ys (by rw [hfo]; exact hl.und) hst
       rw [hfo,hr] at heq
       have hg:∀ op,(eqGuard op t ox oy (.agg xs) (.agg ys)).run P w=.ok () w:=by
        intro op
        cases op <;> simp [eqGuard,hgd]
       cases neg with
       | false=>exact .pure (by simp [hg,binOp,Op.equal,Op.maxDepth,heq]) (.d _ _ (.b _)) hh hk
       | true=>exact .pure (by simp [hg,binOp,Op.equal,Op.maxDepth,heq]) (.d _ _ (.b _)) hh hk
      | _=>simp [eqsOf] at he2
    | _=>exact h.elim
   | _=>cases hry <;> exact h.elim
  | _=>unfold eqQ at h; split at h <;> first | exact h.elim | simp_all
 | _=>exact h.elim
theorem eq_ok {op:BinOp} {t:TypeId} {li:LI} {i:TypeInfo} {u:TypeDesc} {z:Value} (hl:LIs P t li i u z) {ox oy:Operand} {x y:AV} {vx vy:Value} {k:AV→Hp→Prop} (hx:V X m w vx x) (hy:V X m w vy y) (hh:HRel X m H w)
  (h:eqP op li x y fun a=>k a H):VOK P X m w (do eqGuard op t ox oy vx vy; binOp op t vx vy) k:=by
 unfold eqP at h
 cases op with
 | eql=>exact eqQ_ok (neg:=false) hl hx hy hh h
 | neq=>exact eqQ_ok (neg:=true) hl hx hy hh h
 | _=>exact h.elim
end Go.Abs
