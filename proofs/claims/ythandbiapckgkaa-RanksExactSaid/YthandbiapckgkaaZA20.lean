/- Maps of the frame's own, of data: made, looked up, written. No condition. -/
import Derived.Test.YthandbiapckgkaaZA10
import Derived.MapKept
import Derived.Carry
namespace Go.Abs
variable {P:Program} {X:Nat→Prop} {m m':Mp} {H:Hp} {w w':World}
def sameK:D→D→Bool
 | .i k _,.i k' _=>decide (k=k')
 | .s _,.s _=>true
 | _,_=>false
def keyEq:D→D→Bool
 | .i _ a,.i _ b=>a == b
 | .s a,.s b=>decide (a=b)
 | _,_=>false
def mget:List (D × D)→D→D→D
 | [],_,z=>z
 | p::r,k,z=>bif keyEq k p.1 then p.2 else mget r k z
def mput:List (D × D)→D→D→List (D × D)
 | [],k,v=>[(k,v)]
 | p::r,k,v=>bif keyEq k p.1 then (k,v)::r else p::mput r k v
def keyFits (lk:LI):D→Bool
 | .i kk _=>match lk.ik with
  | some q=>decide (q=kk)
  | none=>false
 | .s _=>Nat.beq lk.kd 2
 | _=>false
@[irreducible] def mgS (E:List (D × D)) (key z:D) (K:D→Prop):Prop:=E.all (fun p=>sameK key p.1)=true∧∃ d,mget E key z=d∧(∀ cs,d≠.ag cs)∧K d
theorem mgS_iff {E:List (D × D)} {key z:D} {K:D→Prop}:mgS E key z K↔E.all (fun p=>sameK key p.1)=true∧(∀ cs,mget E key z≠.ag cs)∧K (mget E key z):=by
 unfold mgS; exact ⟨fun ⟨a,d,e,b,c⟩=>by subst e; exact ⟨a,b,c⟩,fun ⟨a,b,c⟩=>⟨a,_,rfl,b,c⟩⟩
@[irreducible] def mpS (E:List (D × D)) (key v:D) (K:List (D × D)→Prop):Prop:=E.all (fun p=>sameK key p.1)=true∧∃ E',mput E key v=E'∧K E'
theorem mpS_iff {E:List (D × D)} {key v:D} {K:List (D × D)→Prop}:mpS E key v K↔E.all (fun p=>sameK key p.1)=true∧K (mput E key v):=by
 unfold mpS; exact ⟨fun ⟨a,d,e,c⟩=>by subst e; exact ⟨a,c⟩,fun ⟨a,c⟩=>⟨a,_,rfl,c⟩⟩
def mkP (li:LI) (H:Hp) (k:AV→Hp→Prop):Prop:=bif Nat.beq li.kd 5 then pushK H (.mp []) fun n H'=>k (.mr n) H' else False
def oneD (le:LI) (K:D→Prop):Prop:=bif le.one then match le.zero with
 | [.d z]=>K z
 | _=>False
 else False
theorem oneD_ok {le:LI} {K:D→Prop} (h:oneD le K):∃ z,(le.one=true∧le.zero=[.d z])∧K z:=by
 unfold oneD at h
 cases ho:le.one with
 | false=>rw [ho] at h; exact h.elim
 | true =>
  rw [ho] at h
  simp only [cond_true] at h
  split at h
  ·rename_i z hz; exact ⟨z,⟨rfl,hz⟩,h⟩
  ·exact h.elim
def lkP (li lk le:LI) (x key:AV) (H:Hp) (k:AV→Prop):Prop :=
 bif Nat.beq li.kd 5 then match x with
  | .mr κ=>nthK H κ fun B=>match B with
   | some (.mp E)=>match key with
    | .d kd=>bif keyFits lk kd then oneD le fun z=>mgS E kd z fun d=>k (.d d) else False
    | _=>False
   | _=>False
  | _=>False
 else False
def muP (li lk:LI) (x key v:AV) (H:Hp) (k:Hp→Prop):Prop :=
 bif Nat.beq li.kd 5 then match x with
  | .mr κ=>nthK H κ fun B=>match B with
   | some (.mp E)=>match key with
    | .d kd=>bif keyFits lk kd then match v with
     | .d (.b y)=>mpS E kd (.b y) fun E'=>setK H κ (some (.mp E')) k
     | .d (.i q y)=>mpS E kd (.i q y) fun E'=>setK H κ (some (.mp E')) k
     | _=>False
     else False
    | _=>False
   | _=>False
  | _=>False
 else False
theorem HRel.allocM (h:HRel X m H w):HRel X (m++[.blk w.heap.size]) (H++[some (.mp [])]) (w.alloc (.map #[] 0)):=by
 have hx:Ext X m w (m++[.blk w.heap.size]) (w.alloc (.map #[] 0)):=Ext.alloc _ h
 have key:∀ (κ b:Nat),(m++[ME.blk w.heap.size])[κ]?=some (.blk b)→(κ < m.length∧m[κ]?=some (.blk b))∨(κ=m.length∧b=w.heap.size):=by
  intro κ b hk
  by_cases hlt:κ < m.length
  ·rw [List.getElem?_append_left hlt] at hk; exact .inl ⟨hlt,hk⟩
  ·have:=(List.getElem?_eq_some_iff.1 hk).1
   have:κ=m.length:=by simp at this; omega
   subst this
   simp at hk
   exact .inr ⟨rfl,hk.symm⟩
 refine ⟨by simp [h.len],fun κ ds hκ=>?_,fun κ κ' b h1 h2=>?_,fun κ b h1=>?_,fun b hb=>?_,h.tab.ext hx⟩
 ·by_cases hlt:κ < H.length
  ·rw [List.getElem?_append_left hlt] at hκ
   rcases h.blk κ ds hκ with ⟨b,us,el',h1,h2,h3⟩ | ⟨h0,h1⟩ | ⟨E,b,es,ck,e1,e2,e3,e4⟩
   ·refine .inl ⟨b,us,el',?_,?_,h3.ext hx⟩
    ·rw [List.getElem?_append_left (by rw [h.len]; exact hlt)]; exact h1
    ·rw [heap_alloc_old _ _ _ (h.lt κ b h1).1]; exact h2
   ·exact .inr (.inl ⟨by rw [List.getElem?_append_left (by rw [h.len]; exact hlt)]; exact h0,h1⟩)
   ·exact .inr (.inr ⟨E,b,es,ck,e1,by rw [List.getElem?_append_left (by rw [h.len]; exact hlt)]; exact e2,by rw [heap_alloc_old _ _ _ (h.lt κ b e2).1]; exact e3,e4.ext hx⟩)
  ·have hκ':κ=H.length:=by
    have:=(List.getElem?_eq_some_iff.1 hκ).1
    simp at this; omega
   subst hκ'
   simp at hκ
   subst hκ
   exact .inr (.inr ⟨[],w.heap.size,#[],0,rfl,by rw [← h.len]; simp,heap_alloc_new _ _,rfl,fun j k d hj=>by simp at hj⟩)
 ·rcases key _ _ h1 with ⟨_,a1⟩ | ⟨a1,b1⟩ <;> rcases key _ _ h2 with ⟨_,a2⟩ | ⟨a2,b2⟩
  ·exact h.inj _ _ _ a1 a2
  ·have:=(h.lt _ _ a1).1; omega
  ·have:=(h.lt _ _ a2).1; omega
  ·omega
 ·rcases key _ _ h1 with ⟨_,a1⟩ | ⟨a1,b1⟩
  ·obtain ⟨a1,a2⟩:=h.lt κ b a1
   exact ⟨by simp; omega,a2⟩
  ·subst b1
   exact ⟨by simp,fun hX=>Nat.lt_irrefl _ (h.old _ hX)⟩
 ·have:=h.old b hb
  simp; omega
theorem mkM_ok {t:TypeId} {li:LI} {k:AV→Hp→Prop} (hh:HRel X m H w) (h:mkP li H k):VOK P X m w (Instr.makeMap t none) k:=by
 unfold mkP at h
 cases hq:Nat.beq li.kd 5 with
 | false=>rw [hq] at h; exact h.elim
 | true =>
  rw [hq] at h
  have hk:=pushK_ok h
  refine ⟨_,_,_,_,_,Go.RowKit.run_makeMap t w,.mr _ H.length (by simp [hh.len]) rfl (fun b hb=>?_) (fun hb=>?_),hh.allocM,Ext.alloc _ hh,hk⟩
  ·rw [← hh.len] at hb; simp at hb; subst hb; rfl
  ·rw [← hh.len] at hb; simp at hb
theorem keyFits_kind {t:TypeId} {lk:LI} {i:TypeInfo} {u:TypeDesc} {z:Value} (hl:LIs P t lk i u z) {I:Nat→Prop} {kd:D} {kv:Value} (hr:Rd I w kv kd) (h:keyFits lk kd=true) :
  (∃ q n,u=.int q∧kd=.i q n∧kv=.int q n)∨(∃ s,u=.string∧kd=.s s∧kv=.string s):=by
 cases hr with
 | i kk n =>
  unfold keyFits at h
  have h2:=hl.ik
  cases u with
  | int q =>
   rw [h2] at h
   simp only [ikOf,decide_eq_true_eq] at h
   subst h
   exact .inl ⟨_,n,rfl,rfl,rfl⟩
  | _=>rw [h2] at h; simp [ikOf] at h
 | s b =>
  unfold keyFits at h
  have hkd:=(Nat.eq_of_beq_eq_true h).symm.trans hl.kd
  have hu:u=.string:=by cases u <;> simp [kdOf] at hkd ⊢
  exact .inr ⟨b,hu,rfl,rfl⟩
 | _=>simp [keyFits] at h
theorem Rd.int_inv {I:Nat→Prop} {v:Value} {q:IntKind} {n:Int} (h:Rd I w v (.i q n)):v=.int q n:=by cases h; rfl
theorem Rd.str_inv {I:Nat→Prop} {v:Value} {s:ByteArray} (h:Rd I w v (.s s)):v=.string s:=by cases h; rfl
theorem find_ok {t:TypeId} {u:TypeDesc} (hu:P.underlying t=some u) {kd:D} {kv:Value} {I:Nat→Prop}
    (hk:(∃ q n,u=.int q∧kd=.i q n∧kv=.int q n)∨(∃ s,u=.string∧kd=.s s∧kv=.string s)) {es:Array MapEntry} {E:List (D × D)} (hs:E.all (fun p=>sameK kd p.1)=true)
    (hm:es.size=E.length∧∀ (j:Nat) k d,E[j]?=some (k,d)→∃ e,es[j]?=some e∧Rd I w e.key k∧Rd I w e.val d∧e.val.oneCell'=true) :
    (∀ em,(Instr.checkKey em 10000 t kv).run P w=.ok () w) ∧
    ((∃ (j:Nat) (k d:D) (e:MapEntry),E[j]?=some (k,d)∧es[j]?=some e∧e.key=kv∧(Instr.findKey t kv es.toList).run P w=.ok (some (j,e.val)) w∧(∀ z,mget E kd z=d)∧(∀ v,mput E kd v=E.set j (kd,v))∧Rd I w e.val d∧e.val.oneCell'=true) ∨
     ((Instr.findKey t kv es.toList).run P w=.ok none w∧(∀ z,mget E kd z=z)∧∀ v,mput E kd v=E++[(kd,v)])):=by
  refine ⟨fun em=>?_,?_⟩
  · rcases hk with ⟨q,n,rfl,rfl,rfl⟩ | ⟨s,rfl,rfl,rfl⟩
    · exact Go.MapKept.run_checkKey hu (by simp [Go.MapKept.IsKey]) em 9999
    · exact Go.MapKept.run_checkKey hu (by simp [Go.MapKept.IsKey]) em 9999
  · have key:∀ (l:List MapEntry) (F:List (D × D)) (i:Nat),F.all (fun p=>sameK kd p.1)=true→l.length=F.length→(∀ (j:Nat) k d,F[j]?=some (k,d)→∃ e,l[j]?=some e∧Rd I w e.key k∧Rd I w e.val d∧e.val.oneCell'=true) →
        (∃ (j:Nat) (k d:D) (e:MapEntry),F[j]?=some (k,d)∧l[j]?=some e∧e.key=kv∧Instr.findNow u kv l i=some (some (i+j,e.val))∧(∀ z,mget F kd z=d)∧(∀ v,mput F kd v=F.set j (kd,v))∧Rd I w e.val d∧e.val.oneCell'=true) ∨
        (Instr.findNow u kv l i=some none∧(∀ z,mget F kd z=z)∧∀ v,mput F kd v=F++[(kd,v)]):=by
      intro l
      induction l with
      | nil =>
        intro F i _ hl _
        have:F=[]:=List.length_eq_zero_iff.1 hl.symm
        subst this
        exact .inr ⟨rfl,fun _=>rfl,fun _=>rfl⟩
      | cons e l ih =>
        intro F i hf hl hF
        cases F with
        | nil=>simp at hl
        | cons p F =>
        obtain ⟨pk,pd⟩:=p
        obtain ⟨e',he',hek,hev,hec⟩:=hF 0 pk pd rfl
        cases he'
        simp only [List.all_cons,Bool.and_eq_true] at hf
        have hnow:∃ b,Instr.sameNow u kv e.key=some b∧keyEq kd pk=b∧(b=true→e.key=kv):=by
          rcases hk with ⟨q,n,rfl,rfl,rfl⟩ | ⟨s,rfl,rfl,rfl⟩
          · cases pk with
            | i k' n' =>
              have:q=k':=by simpa [sameK] using hf.1
              subst this
              rw [hek.int_inv]
              exact ⟨n == n',by simp [Instr.sameNow],rfl,fun h=>by rw [beq_iff_eq] at h; rw [h]⟩
            | _=>simp [sameK] at hf
          · cases pk with
            | s b =>
              rw [hek.str_inv]
              refine ⟨s == b,by simp [Instr.sameNow],?_,fun h=>by rw [(Go.MapKept.bytes_beq _ _).1 h]⟩
              rw [Bool.eq_iff_iff,Go.MapKept.bytes_beq]; simp [keyEq]
            | _=>simp [sameK] at hf
        obtain ⟨b,hb,hb2,hb3⟩:=hnow
        cases b with
        | true =>
          exact .inl ⟨0,pk,pd,e,rfl,rfl,hb3 rfl,by simp [Instr.findNow,hb],fun z=>by simp [mget,hb2],fun v=>by simp [mput,hb2],hev,hec⟩
        | false =>
          rcases ih F (i+1) hf.2 (by simpa using hl) (fun j k d hj=>hF (j+1) k d (by simpa using hj)) with ⟨j,k,d,e',f1,f2,f3,f4,f5,f6,f7,f8⟩ | ⟨f1,f2,f3⟩
          · exact .inl ⟨j+1,k,d,e',by simpa using f1,by simpa using f2,f3,by rw [Instr.findNow,hb]; simp only []; rw [f4,show i+1+j=i+(j+1) from by omega],fun z=>by rw [mget,hb2,cond_false]; exact f5 z,fun v=>by rw [mput,hb2,cond_false,f6]; rfl,f7,f8⟩
          · exact .inr ⟨by rw [Instr.findNow,hb]; simp only []; exact f1,fun z=>by rw [mget,hb2,cond_false]; exact f2 z,fun v=>by rw [mput,hb2,cond_false,f3]; rfl⟩
    rcases key es.toList E 0 hs (by simpa using hm.1) (fun j k d hj=>by simpa using hm.2 j k d hj) with ⟨j,k,d,e,f1,f2,f3,f4,f5,f6,f7,f8⟩ | ⟨f1,f2,f3⟩
    · refine .inl ⟨j,k,d,e,f1,by simpa using f2,f3,?_,f5,f6,f7,f8⟩
      rw [Nat.zero_add] at f4
      simp [Instr.findKey,underlying,hu,f4]
    · exact .inr ⟨by simp [Instr.findKey,underlying,hu,f1],f2,f3⟩
theorem lk_ok {t:TypeId} {li lk le:LI} {i ik ie:TypeInfo} {u uk ue:TypeDesc} {z zk ze:Value} (hl:LIs P t li i u z) (hlk:LIs P li.alen lk ik uk zk) (hle:LIs P li.elem le ie ue ze) {x key:AV} {vx vk:Value} {k:AV→Hp→Prop}
  (hx:V X m w vx x) (hk:V X m w vk key) (hh:HRel X m H w) (h:lkP li lk le x key H fun a=>k a H):VOK P X m w (Instr.lookup t vx vk false) k:=by
 unfold lkP at h
 cases hq:Nat.beq li.kd 5 with
 | false=>rw [hq] at h; exact h.elim
 | true =>
  rw [hq] at h
  have hu:=hl.mapt (Nat.eq_of_beq_eq_true hq)
  subst hu
  cases hx with
  | mr _ κ hκ h1 hp h0 =>
   simp only [cond_true] at h
   obtain ⟨B,hB,h⟩:=nthK_ok h
   match B,hB,h with
   | some (.mp E),hB,h =>
    rcases hh.blk κ _ hB with ⟨_,_,_,_,_,hR⟩ | ⟨_,_,hR⟩ | ⟨E',b,es,ck,e1,e2,e3,e4⟩
    ·exact hR.elim
    ·cases hR
    ·cases e1
     have:=hp b e2
     subst this
     cases hk with
     | d _ kd hrk =>
      dsimp only at h
      cases hkf:keyFits lk kd with
      | false=>rw [hkf] at h; exact h.elim
      | true =>
       rw [hkf] at h
       have hz:=hle.zer
       obtain ⟨dz,hzl,h⟩:=oneD_ok h
       obtain ⟨ho1,hzl⟩:=hzl
       obtain ⟨hs,hna,h⟩:=mgS_iff.1 h
       obtain ⟨c1,c2⟩:=find_ok (P:=P) (w:=w) hlk.und (keyFits_kind hlk hrk hkf) hs e4
       have hzr:(zeroValue li.elem).run P w=.ok ze w:=by simp [zeroValue,typeInfo,hle.info,hle.zero]
       have hzv:V X m w ze (.d dz):=by
        rw [hzl] at hz
        have hna:=hle.one ho1
        have hc:ze.cells=#[ze]:=by cases ze <;> first | rfl | exact absurd rfl (hna _)
        rw [hc] at hz
        simp at hz
        rw [hz]; exact V.ofV ze
       have hund:=hl.und
       have hg:=Go.MapKept.run_getObj_map (P:=P) e3
       rcases c2 with ⟨j,kk,d,e,f1,f2,f3,f4,f5,f6,f7,f8⟩ | ⟨f1,f2,f3⟩
       ·rw [f5] at h
        exact .pure (by simp [Instr.lookup,underlying,hund,hg,c1,f4]) (.d _ _ f7) hh h
       ·rw [f2] at h
        exact .pure (by simp [Instr.lookup,underlying,hund,hg,c1,f1,hzr]) hzv hh h
     | _=>exact h.elim
  | _=>exact h.elim
theorem Ext.setMap {κ b:Nat} {es es':Array MapEntry} {ck ck':Nat} (hb:m[κ]?=some (.blk b)) (hg:w.heap[b]?=some (.map es ck)):Ext X m w m { w with heap:=w.heap.setIfInBounds b (.map es' ck') } where
 out:=⟨rfl,rfl,rfl⟩
 keep b' _ hm:=by
  refine ⟨?_,hm⟩
  have:b≠b':=fun e=>hm (by subst e; exact mem_of_get hb)
  simp [Array.getElem?_setIfInBounds,this]
 size:=by simp
 len:=Nat.le_refl _
 same _ _ _ h:=.inr h
 room b' n:=by
  rintro ⟨us,el',fz,e,hn⟩
  have:b≠b':=by
   intro hbb
   subst hbb
   rw [hg] at e; cases e
  exact ⟨us,el',fz,by simpa [Array.getElem?_setIfInBounds,this] using e,hn⟩
theorem HRel.setMap {κ b:Nat} {es es':Array MapEntry} {ck ck':Nat} {E E':List (D × D)} (h:HRel X m H w) (hb:m[κ]?=some (.blk b)) (hκ:H[κ]?=some (some (.mp E))) (hg:w.heap[b]?=some (.map es ck)) (hM:MRel X m w es' E') :
  HRel X m (H.set κ (some (.mp E'))) { w with heap:=w.heap.setIfInBounds b (.map es' ck') }:=by
 have hx:Ext X m w m { w with heap:=w.heap.setIfInBounds b (.map es' ck') }:=Ext.setMap hb hg
 have hlt:b < w.heap.size:=(h.lt κ b hb).1
 have oth:∀ b',b≠b'→({ w with heap:=w.heap.setIfInBounds b (.map es' ck') }:World).heap[b']?=w.heap[b']?:=fun b' hne=>by simp [Array.getElem?_setIfInBounds,hne]
 refine ⟨by simp [h.len],fun κ' ds hκ'=>?_,h.inj,fun κ b h1=>let ⟨l,x⟩:=h.lt κ b h1; ⟨Nat.lt_of_lt_of_le l hx.size,x⟩,fun b hb=>Nat.lt_of_lt_of_le (h.old b hb) hx.size,h.tab.ext hx⟩
 rw [List.getElem?_set] at hκ'
 by_cases he:κ=κ'
 ·subst he
  have hlt2:κ < H.length:=(List.getElem?_eq_some_iff.1 hκ).1
  simp [hlt2] at hκ'
  subst hκ'
  exact .inr (.inr ⟨E',b,es',ck',rfl,hb,by simp [Array.getElem?_setIfInBounds,hlt],hM.ext hx⟩)
 ·simp [he] at hκ'
  rcases h.blk κ' ds hκ' with ⟨b',us,el',h1,h2,h3⟩ | h0 | ⟨E2,b',es2,ck2,e1,e2,e3,e4⟩
  ·exact .inl ⟨b',us,el',h1,(oth b' fun e=>he (by subst e; exact h.inj _ _ _ hb h1)).trans h2,h3.ext hx⟩
  ·exact .inr (.inl h0)
  ·exact .inr (.inr ⟨E2,b',es2,ck2,e1,e2,(oth b' fun e=>he (by subst e; exact h.inj _ _ _ hb e2)).trans e3,e4.ext hx⟩)
theorem mu_ok {t:TypeId} {li lk:LI} {i ik:TypeInfo} {u uk:TypeDesc} {z zk:Value} (hl:LIs P t li i u z) (hlk:LIs P li.alen lk ik uk zk) {x key v:AV} {vx vk vv:Value} {k:AV→Hp→Prop}
  (hx:V X m w vx x) (hk:V X m w vk key) (hv:V X m w vv v) (hh:HRel X m H w) (h:muP li lk x key v H fun H'=>k .un H') :
  ∃ w' H',(Instr.mapUpdate t vx vk vv).run P w=.ok () w'∧HRel X m H' w'∧Ext X m w m w'∧k .un H':=by
 unfold muP at h
 cases hq:Nat.beq li.kd 5 with
 | false=>rw [hq] at h; exact h.elim
 | true =>
  rw [hq] at h
  have hu:=hl.mapt (Nat.eq_of_beq_eq_true hq)
  subst hu
  cases hx with
  | mr _ κ hκ h1 hp h0 =>
   simp only [cond_true] at h
   obtain ⟨B,hB,h⟩:=nthK_ok h
   match B,hB,h with
   | some (.mp E),hB,h =>
    rcases hh.blk κ _ hB with ⟨_,_,_,_,_,hR⟩ | ⟨_,_,hR⟩ | ⟨E',b,es,ck,e1,e2,e3,e4⟩
    ·exact hR.elim
    ·cases hR
    ·cases e1
     have:=hp b e2
     subst this
     cases hk with
     | d _ kd hrk =>
      dsimp only at h
      cases hkf:keyFits lk kd with
      | false=>rw [hkf] at h; exact h.elim
      | true =>
       rw [hkf] at h
       simp only [cond_true] at h
       have fin:∀ (d:D),Rd (Imm X m w) w vv d→vv.oneCell'=true→(mpS E kd d fun E'=>setK H κ (some (.mp E')) fun H'=>k .un H')→∃ w' H',(Instr.mapUpdate t (.map (some b)) vk vv).run P w=.ok () w'∧HRel X m H' w'∧Ext X m w m w'∧k .un H':=by
        intro d hrd hone h
        obtain ⟨hs,h⟩:=mpS_iff.1 h
        obtain ⟨_,hkk⟩:=setK_ok h
        have hkind:=keyFits_kind hlk hrk hkf
        obtain ⟨c1,c2⟩:=find_ok (P:=P) (w:=w) hlk.und hkind hs e4
        have hund:=hl.und
        have hg:=Go.MapKept.run_getObj_map (P:=P) e3
        rcases c2 with ⟨j,kk,dd,e,f1,f2,f3,f4,f5,f6,f7,f8⟩ | ⟨f1,f2,f3⟩
        ·have hkey:(Instr.keyThatStays vk vk).run P w=.ok vk w:=by
          rcases hkind with ⟨q,n,e,_,rfl⟩ | ⟨s,e,_,rfl⟩
          ·exact Go.MapKept.run_keyThatStays (d:=.int q) (by simp [Go.MapKept.IsKey])
          ·exact Go.MapKept.run_keyThatStays (d:=.string) (by simp [Go.MapKept.IsKey])
         have hks:((es[j]?).map (·.key)).getD vk=vk:=by rw [f2]; exact f3
         refine ⟨_,_,?_,hh.setMap (es':=es.modify j fun e=>{ e with key:=vk,val:=vv }) (ck':=ck) (E':=mput E kd d) e2 hB e3 ?_,Ext.setMap e2 e3,hkk⟩
         ·simp [Instr.mapUpdate,underlying,hund,hg,c1,f4,hks,hkey,Go.MapKept.run_setObj_map _ e3]
         ·rw [f6]
          refine ⟨by simp [e4.1],fun j' k' d' hj'=>?_⟩
          rw [List.getElem?_set] at hj'
          by_cases ej:j=j'
          ·subst ej
           have hjl:j < E.length:=(List.getElem?_eq_some_iff.1 f1).1
           simp [hjl] at hj'
           obtain ⟨rfl,rfl⟩:=hj'
           exact ⟨{ e with key:=vk,val:=vv },by simp [Array.getElem?_modify,f2],hrk,hrd,hone⟩
          ·simp [ej] at hj'
           obtain ⟨e',g1,g2,g3,g4⟩:=e4.2 j' k' d' hj'
           exact ⟨e',by simp [Array.getElem?_modify,ej,g1],g2,g3,g4⟩
        ·refine ⟨_,_,?_,hh.setMap (es':=es.push { key:=vk,val:=vv,born:=ck }) (ck':=ck+1) (E':=mput E kd d) e2 hB e3 ?_,Ext.setMap e2 e3,hkk⟩
         ·simp [Instr.mapUpdate,underlying,hund,hg,c1,f1,Go.MapKept.run_setObj_map _ e3]
         ·rw [f3]
          refine ⟨by simp [e4.1],fun j' k' d' hj'=>?_⟩
          by_cases ej:j' < E.length
          ·rw [List.getElem?_append_left ej] at hj'
           obtain ⟨e',g1,g2,g3,g4⟩:=e4.2 j' k' d' hj'
           exact ⟨e',by rw [Array.getElem?_push_lt (by rw [e4.1]; exact ej)]; rw [← g1]; simp [e4.1,ej],g2,g3,g4⟩
          ·have hjl:=(List.getElem?_eq_some_iff.1 hj').1
           have ej2:j'=E.length:=by simp at hjl; omega
           subst ej2
           simp at hj'
           obtain ⟨rfl,rfl⟩:=hj'
           exact ⟨{ key:=vk,val:=vv,born:=ck },by rw [← e4.1]; simp,hrk,hrd,hone⟩
       cases hv with
       | d _ y hry =>
        cases hry with
        | b y=>exact fin _ (.b y) rfl h
        | i q y=>exact fin _ (.i q y) rfl h
        | _=>exact h.elim
       | _=>exact h.elim
     | _=>exact h.elim
  | _=>exact h.elim
end Go.Abs
