/- The operations on abstract values, each with its proof that the model's operation does the same: loads, stores, addresses, new blocks. No condition. -/
import Derived.Test.YthandbiapckgkaaZA2
namespace Go.Abs
/- The proof may spell these anew. (An 'exists': so that Lean's kernel stops at them,too.) -/
@[irreducible] def lnS (n:Nat) (K:Nat→Prop):Prop:=∃ m,n=m∧K m
theorem lnS_mk {n m:Nat} {K:Nat→Prop} (h:n=m) (hk:K m):lnS n K:=by unfold lnS; exact ⟨m,h,hk⟩
theorem lnS_iff {n:Nat} {K:Nat→Prop}:lnS n K↔K n:=by unfold lnS; exact ⟨fun ⟨_,e,h⟩=>e ▸ h,fun h=>⟨n,rfl,h⟩⟩
theorem lnS_map {α β:Type} {f:α→β} {l:List α} {K:Nat→Prop} (hk:K l.length):lnS (l.map f).length K:=lnS_mk (by simp) hk
@[irreducible] def reS (es:List AV) (n:Nat) (K:List AV→Nat→Prop):Prop:=∃ es' n',es=es'∧n=n'∧K es' n'
theorem rS {es es':List AV} {n n':Nat} {K:List AV→Nat→Prop} (h:es=es') (hn:n=n') (hk:K es' n'):reS es n K:=by unfold reS; exact ⟨_,_,h,hn,hk⟩
theorem reS_iff {es:List AV} {n:Nat} {K:List AV→Nat→Prop}:reS es n K↔K es n:=by unfold reS; exact ⟨fun ⟨_,_,e,e',h⟩=>by subst e; subst e'; exact h,fun h=>⟨_,_,rfl,rfl,h⟩⟩
@[irreducible] def lsS (es:List D) (K:List D→Prop):Prop:=∃ es',es=es'∧K es'
theorem lsS_iff {es:List D} {K:List D→Prop}:lsS es K↔K es:=by unfold lsS; exact ⟨fun ⟨_,e,h⟩=>by subst e; exact h,fun h=>⟨_,rfl,h⟩⟩
@[irreducible] def lvS (es:List AV) (K:List AV→Prop):Prop:=∃ es',es=es'∧K es'
theorem lvS_mk {es es':List AV} {K:List AV→Prop} (h:es=es') (hk:K es'):lvS es K:=by unfold lvS; exact ⟨_,h,hk⟩
theorem lvS_iff {es:List AV} {K:List AV→Prop}:lvS es K↔K es:=by unfold lvS; exact ⟨fun ⟨_,e,h⟩=>by subst e; exact h,fun h=>⟨_,rfl,h⟩⟩
def nthK {α:Type}:List α→Nat→(α→Prop)→Prop
 | [],_,_=>False
 | x::_,0,k=>k x
 | _::l,n+1,k=>nthK l n k
theorem nthK_ok {α:Type}:∀ {l:List α} {n:Nat} {k:α→Prop},nthK l n k→∃ x,l[n]?=some x∧k x
 | [],_,_,h=>h.elim
 | x::_,0,_,h=>⟨x,rfl,h⟩
 | _::l,n+1,_,h=>by obtain ⟨x,e,hk⟩:=nthK_ok (l:=l) h; exact ⟨x,by simpa using e,hk⟩
def dropK {α:Type}:List α→Nat→(List α→Prop)→Prop
 | l,0,k=>k l
 | [],_+1,_=>False
 | _::l,n+1,k=>dropK l n k
theorem dropK_ok {α:Type}:∀ {l:List α} {n:Nat} {k:List α→Prop},dropK l n k→n≤l.length∧k (l.drop n)
 | l,0,_,h=>by cases l <;> exact ⟨Nat.zero_le _,h⟩
 | [],_+1,_,h=>by exact False.elim h
 | _::l,n+1,_,h=>by
  obtain ⟨a,b⟩:=dropK_ok (l:=l) h
  exact ⟨by simpa using a,by simpa using b⟩
def takeK {α:Type}:List α→Nat→(List α→Prop)→Prop
 | _,0,k=>k []
 | [],_+1,_=>False
 | x::l,n+1,k=>takeK l n fun r=>k (x::r)
theorem takeK_ok {α:Type}:∀ {l:List α} {n:Nat} {k:List α→Prop},takeK l n k→n≤l.length∧k (l.take n)
 | l,0,_,h=>by cases l <;> exact ⟨Nat.zero_le _,h⟩
 | [],_+1,_,h=>by exact False.elim h
 | x::l,n+1,_,h=>by
  obtain ⟨a,b⟩:=takeK_ok (l:=l) h
  exact ⟨by simpa using a,by simpa using b⟩
def setK {α:Type}:List α→Nat→α→(List α→Prop)→Prop
 | [],_,_,_=>False
 | _::l,0,y,k=>k (y::l)
 | x::l,n+1,y,k=>setK l n y fun r=>k (x::r)
theorem setK_ok {α:Type}:∀ {l:List α} {n:Nat} {y:α} {k:List α→Prop},setK l n y k→n < l.length∧k (l.set n y)
 | [],_,_,_,h=>h.elim
 | _::_,0,_,_,h=>⟨by simp,h⟩
 | x::l,n+1,y,_,h=>by
  obtain ⟨a,b⟩:=setK_ok (l:=l) h
  exact ⟨by simpa using a,by simpa using b⟩
def owK:List AV→Nat→List AV→(List AV→Prop)→Prop
 | cs,0,[],k=>k cs
 | _::cs,0,v::vs,k=>owK cs 0 vs fun r=>k (v::r)
 | c::cs,o+1,vs,k=>owK cs o vs fun r=>k (c::r)
 | [],_,_,_=>False
theorem owK_ok:∀ {cs:List AV} {o:Nat} {vs:List AV} {k:List AV→Prop},owK cs o vs k→o+vs.length≤cs.length∧k (cs.take o++vs++cs.drop (o+vs.length))
 | cs,0,[],_,h=>by cases cs <;> exact ⟨by simp,by simpa [owK] using h⟩
 | _::cs,0,v::vs,_,h=>by
  obtain ⟨a,b⟩:=owK_ok (cs:=cs) (o:=0) (vs:=vs) h
  refine ⟨by simp at a ⊢; omega,?_⟩
  simpa [Nat.add_comm,Nat.add_left_comm,List.drop_succ_cons,Nat.add_assoc] using b
 | c::cs,o+1,vs,_,h=>by
  obtain ⟨a,b⟩:=owK_ok (cs:=cs) (o:=o) (vs:=vs) (by simpa [owK] using h)
  refine ⟨by simp at a ⊢; omega,?_⟩
  have e:o+1+vs.length=(o+vs.length)+1:=by omega
  rw [e]
  simpa using b
 | [],0,_::_,_,h=>by simp [owK] at h
 | [],_+1,_,_,h=>by simp [owK] at h
def allDK:List AV→(List D→Prop)→Prop→Prop
 | [],k,_=>k []
 | .d x::l,k,e=>allDK l (fun xs=>k (x::xs)) e
 | _::_,_,e=>e
theorem allDK_ok:∀ {l:List AV} {k:List D→Prop} {e:Prop},allDK l k e→(∃ ds,l=ds.map .d∧k ds)∨e
 | [],_,_,h=>.inl ⟨[],rfl,h⟩
 | x::l,k,e,h=>by
  cases x with
  | d x =>
   rcases allDK_ok (l:=l) h with ⟨ds,e1,hk⟩ | he
   ·exact .inl ⟨x::ds,by simp [e1],hk⟩
   ·exact .inr he
  | _=>exact .inr h
def mkAg (cs:List AV) (k:AV→Prop):Prop:=allDK cs (fun ds=>k (.d (.ag ds))) (k (.ag cs))
theorem mkAg_ok {cs:List AV} {k:AV→Prop} (h:mkAg cs k):(∃ ds,cs=ds.map .d∧k (.d (.ag ds)))∨k (.ag cs):=allDK_ok h
variable {X:Nat→Prop} {m m':Mp} {H:Hp} {w w':World}
theorem Rd.one {I:Nat→Prop} {v:Value} {x:D} (h:Rd I w v x) (hx:∀ cs,x≠.ag cs):v.oneCell'=true:=by
 cases h <;> first | rfl | exact absurd rfl (hx _)
theorem Rd.cells {I:Nat→Prop} {v:Value} {x:D} (h:Rd I w v x):v.cells.size=x.cells.length∧∀ (j:Nat) c,x.cells[j]?=some c→∃ u,v.cells[j]?=some u∧Rd I w u c∧u.oneCell'=true:=by
 have single:∀ (v:Value) (x:D),v.cells=#[v]→x.cells=[x]→v.oneCell'=true→Rd I w v x →
   v.cells.size=x.cells.length∧∀ (j:Nat) c,x.cells[j]?=some c→∃ u,v.cells[j]?=some u∧Rd I w u c∧u.oneCell'=true:=by
  intro v x hv hx h1 hr
  refine ⟨by simp [hv,hx],fun j c hc=>?_⟩
  rw [hx] at hc
  cases j with
  | zero=>simp at hc; subst hc; exact ⟨v,by simp [hv],hr,h1⟩
  | succ j=>simp at hc
 cases h with
 | ag vs cs hl h1 hh =>
  refine ⟨by simpa [Value.cells,D.cells] using hl,fun j c hc=>?_⟩
  simp only [D.cells] at hc
  have hlt:j < vs.size:=by rw [hl]; exact (List.getElem?_eq_some_iff.1 hc).1
  exact ⟨vs[j],by simp [Value.cells,hlt],hh j _ _ (by simp [hlt]) hc,h1 j _ (by simp [hlt])⟩
 | b x=>exact single _ _ rfl rfl rfl (.b x)
 | i k n=>exact single _ _ rfl rfl rfl (.i k n)
 | s x=>exact single _ _ rfl rfl rfl (.s x)
 | nf=>exact single _ _ rfl rfl rfl .nf
 | np=>exact single _ _ rfl rfl rfl .np
 | ni=>exact single _ _ rfl rfl rfl .ni
 | nil=>exact single _ _ rfl rfl rfl .nil
 | lz a=>exact single _ _ rfl rfl rfl (.lz a)
 | fn f vs cs hl hh=>exact single _ _ rfl rfl rfl (.fn f vs cs hl hh)
 | fm f vs cs hl hh=>exact single _ _ rfl rfl rfl (.fm f vs cs hl hh)
 | ls bk off cap k es vs hI hc hk hw hh=>exact single _ _ rfl rfl rfl (.ls bk off cap k es vs hI hc hk hw hh)
 | ro bk off cs vs hI hw hh=>exact single _ _ rfl rfl rfl (.ro bk off cs vs hI hw hh)
def AV.plain:AV→Bool
 | .un | .tp _ | .vw _ _ _ _ | .cv _=>false
 | _=>true
theorem V.cells {v:Value} {x:AV} (h:V X m w v x) (hp:x.plain=true):v.cells.size=x.cells.length∧∀ (j:Nat) c,x.cells[j]?=some c→∃ u,v.cells[j]?=some u∧C X m w u c:=by
 have single:∀ (v:Value) (x:AV),v.cells=#[v]→x.cells=[x]→v.oneCell'=true→V X m w v x →
   v.cells.size=x.cells.length∧∀ (j:Nat) c,x.cells[j]?=some c→∃ u,v.cells[j]?=some u∧C X m w u c:=by
  intro v x hv hx h1 hr
  refine ⟨by simp [hv,hx],fun j c hc=>?_⟩
  rw [hx] at hc
  cases j with
  | zero=>simp at hc; subst hc; exact ⟨v,by simp [hv],hr,h1⟩
  | succ j=>simp at hc
 have cell1:∀ v:Value,v.oneCell'=true→v.cells=#[v]:=by intro v h; cases v <;> first | rfl | simp [Value.oneCell'] at h
 cases h with
 | d v x hr =>
  obtain ⟨a,b⟩:=hr.cells
  refine ⟨by simpa [AV.cells] using a,fun j c hc=>?_⟩
  simp only [AV.cells,List.getElem?_map,Option.map_eq_some_iff] at hc
  obtain ⟨c',hc',rfl⟩:=hc
  obtain ⟨u,e,hu,h1⟩:=b j c' hc'
  exact ⟨u,e,.d u c' hu,h1⟩
 | ag vs cs hl h1 hh =>
  refine ⟨by simpa [Value.cells,AV.cells] using hl,fun j c hc=>?_⟩
  simp only [AV.cells] at hc
  have hlt:j < vs.size:=by rw [hl]; exact (List.getElem?_eq_some_iff.1 hc).1
  exact ⟨vs[j],by simp [Value.cells,hlt],hh j _ _ (by simp [hlt]) hc,h1 j _ (by simp [hlt])⟩
 | tp=>simp [AV.plain] at hp
 | un=>simp [AV.plain] at hp
 | vw=>simp [AV.plain] at hp
 | cv=>simp [AV.plain] at hp
 | fn f vs cs hl hh=>exact single _ _ rfl rfl rfl (.fn f vs cs hl hh)
 | fm f vs cs hl hh=>exact single _ _ rfl rfl rfl (.fm f vs cs hl hh)
 | sl v κ k off n hκ h1 hh h0=>exact single _ _ (cell1 v h1) rfl h1 (.sl v κ k off n hκ h1 hh h0)
 | pe v κ k j off hκ h1 hh h0=>exact single _ _ (cell1 v h1) rfl h1 (.pe v κ k j off hκ h1 hh h0)
 | mr v κ hκ h1 hh h0=>exact single _ _ (cell1 v h1) rfl h1 (.mr v κ hκ h1 hh h0)
 | pt v κ off hκ h1 hh h0=>exact single _ _ (cell1 v h1) rfl h1 (.pt v κ off hκ h1 hh h0)
 | nsl=>exact single _ _ rfl rfl rfl .nsl
 | yl l=>exact single _ _ rfl rfl rfl (.yl l)
 | mx b=>exact single _ _ rfl rfl rfl (.mx b)
theorem C.get {v:Value} {x:AV} (h:C X m w v x):V X m w v x:=h.1
theorem V.mkAg {vs:Array Value} {cs:List AV} (hl:vs.size=cs.length) (h:∀ (j:Nat) c,cs[j]?=some c→∃ v,vs[j]?=some v∧C X m w v c):V X m w (.agg vs) (.ag cs):=by
 refine .ag vs cs hl (fun j v hv=>?_) (fun j v c hv hc=>?_)
 ·have hlt:j < cs.length:=by rw [← hl]; exact (Array.getElem?_eq_some_iff.1 hv).1
  obtain ⟨u,e,hu⟩:=h j _ (List.getElem?_eq_getElem hlt)
  rw [hv] at e; cases e; exact hu.2
 ·obtain ⟨u,e,hu⟩:=h j c hc
  rw [hv] at e; cases e; exact hu.1
theorem Rd.of_V {v:Value} {x:D} (h:V X m w v (.d x)):Rd (Imm X m w) w v x:=by cases h; assumption
theorem V.mkAgD {vs:Array Value} {ds:List D} (hl:vs.size=ds.length) (h:∀ (j:Nat) c,(ds.map AV.d)[j]?=some c→∃ v,vs[j]?=some v∧C X m w v c):V X m w (.agg vs) (.d (.ag ds)):=by
 refine .d _ _ (.ag vs ds hl (fun j v hv=>?_) (fun j v c hv hc=>?_))
 ·have hlt:j < ds.length:=by rw [← hl]; exact (Array.getElem?_eq_some_iff.1 hv).1
  obtain ⟨u,e,hu⟩:=h j (.d ds[j]) (by simp [hlt])
  rw [hv] at e; cases e; exact hu.2
 ·obtain ⟨u,e,hu⟩:=h j (.d c) (by simp [hc])
  rw [hv] at e; cases e; exact Rd.of_V hu.1
theorem V.of_mkAg {vs:Array Value} {cs:List AV} {k:AV→Prop} (hk:Abs.mkAg cs k) (hl:vs.size=cs.length) (h:∀ (j:Nat) c,cs[j]?=some c→∃ v,vs[j]?=some v∧C X m w v c):∃ av,V X m w (.agg vs) av∧k av:=by
 rcases mkAg_ok hk with ⟨ds,rfl,hk'⟩ | hk'
 ·exact ⟨_,V.mkAgD (by simpa using hl) h,hk'⟩
 ·exact ⟨_,V.mkAg hl h,hk'⟩
/- The types as the operations want them. -/
structure LI where
 size:Nat
 agg:Bool
 zero:List AV
 flds:List (Nat × Nat)
 sl:Bool
 elem:Nat
 bytes:Nat
 kd:Nat
 eqs:Bool
 fks:List Nat
 ik:Option IntKind
 ar:Bool
 alen:Nat
 one:Bool
def ofV:Value→AV
 | .bool x=>.d (.b x) | .int k n=>.d (.i k n) | .string s=>.d (.s s) | .nilFunc=>.d .nf | .pointer none=>.d .np | .nilIface=>.d .ni
 | .slice none 0 0=>.nsl
 | _=>.un
theorem V.ofV (v:Value):V X m w v (ofV v):=by
 unfold Abs.ofV
 split
 ·exact .d _ _ (.b _)
 ·exact .d _ _ (.i _ _)
 ·exact .d _ _ (.s _)
 ·exact .d _ _ .nf
 ·exact .d _ _ .np
 ·exact .d _ _ .ni
 ·exact .nsl
 ·exact .un _
theorem C.ofV {v:Value} (h:(Abs.ofV v).plain=true):C X m w v (Abs.ofV v):=by
 refine ⟨V.ofV v,?_⟩
 revert h
 unfold Abs.ofV
 split <;> simp [AV.plain,Value.oneCell']
def isAggD:TypeDesc→Bool
 | .struct _ | .array _ _=>true
 | _=>false
def fldsOf (P:Program):TypeDesc→List (Nat × Nat)
 | .struct fs=>fs.toList.map fun f=>(f.offset,P.cellsOf f.type)
 | _=>[]
def kdOf:TypeDesc→Nat
 | .bool=>1 | .string=>2 | .slice _=>3 | .int _=>4 | .map _ _=>5
 | _=>0
def fkOf (P:Program) (f:Field):Nat :=
 match P.underlying f.type with
 | some u=>kdOf u
 | none=>0
def fksOf (P:Program):TypeDesc→List Nat
 | .struct fs=>fs.toList.map (fkOf P)
 | _=>[]
def plainD:Option TypeDesc→Bool
 | some .bool | some (.int _) | some .string=>true
 | _=>false
def ikOf:TypeDesc→Option IntKind
 | .int k=>some k
 | _=>none
def eqsOf (P:Program) (t:TypeId):TypeDesc→Bool
 | .struct fs => (fs.toList.zipIdx.all fun (f, i) => f.name != "_" && f.offset == i && P.cellsOf f.type == 1 && plainD (P.underlying f.type)) && !P.stoodInHeld t && !P.eqGuardType P.depth t
 | _=>false
def wellF (P:Program):TypeDesc→Bool
 | .struct fs=>fs.toList.all fun f=>(P.info? f.type).isSome
 | _=>true
def mkLI (P:Program) (t:TypeId):Option LI :=
 match P.info? t,P.underlying t with
 | some i,some u =>
  match i.zero,wellF P u with
  | some z,true=>some { size:=i.size,agg:=isAggD u,zero:=z.cells.toList.map ofV,flds:=fldsOf P u,sl:=(match u with | .slice _=>true | _=>false),elem:=(match u with | .slice e=>e | .array _ e=>e | .map _ e=>e | _=>0),bytes:=i.bytes,kd:=kdOf u,eqs:=eqsOf P t u,fks:=fksOf P u,ik:=ikOf u,ar:=(match u with | .array _ _=>true | _=>false),alen:=(match u with | .array n _=>n | .map k _=>k | _=>0),one:=(match z with | .agg _=>false | _=>true) }
  | _,_=>none
 | _,_=>none
abbrev Lay:=List (Option LI)
def LayOK (P:Program) (L:Lay):Prop:=∀ (t:Nat) li,L[t]?=some (some li)→mkLI P t=some li
structure LIs (P:Program) (t:TypeId) (li:LI) (i:TypeInfo) (u:TypeDesc) (z:Value):Prop where
 info:P.info? t=some i
 und:P.underlying t=some u
 zero:i.zero=some z
 size:li.size=i.size
 agg:li.agg=isAggD u
 zer:li.zero=z.cells.toList.map ofV
 flds:li.flds=fldsOf P u
 slice:li.sl=true→u=.slice li.elem
 bytes:li.bytes=i.bytes
 well:wellF P u=true
 kd:li.kd=kdOf u
 eqs:li.eqs=eqsOf P t u
 fks:li.fks=fksOf P u
 ik:li.ik=ikOf u
 arr:li.ar=true→u=.array li.alen li.elem
 mapt:li.kd=5→u=.map li.alen li.elem
 one:li.one=true→∀ cs,z≠.agg cs
theorem LayOK.get {P:Program} {L:Lay} (h:LayOK P L) {t:Nat} {li:LI} (e:L[t]?=some (some li)):∃ i u z,LIs P t li i u z:=by
 have hm:=h t li e
 unfold mkLI at hm
 split at hm
 ·rename_i i u h1 h2
  split at hm
  ·rename_i z hz hw
   simp only [Option.some.injEq] at hm
   subst hm
   refine ⟨i,u,z,h1,h2,hz,rfl,rfl,rfl,rfl,?_,rfl,hw,rfl,rfl,rfl,rfl,?_,?_,?_⟩
   ·intro hs
    cases u <;> simp_all
   ·intro hs
    cases u <;> simp_all
   ·intro hs
    cases u <;> simp_all [kdOf]
   ·intro hs cs hz9
    subst hz9; simp at hs
  ·cases hm
 ·cases hm
def liK (L:Lay) (t:Nat) (k:LI→Prop):Prop:=nthK L t fun o=>match o with | some li=>k li | none=>False
theorem liK_ok {P:Program} {L:Lay} (hL:LayOK P L) {t:Nat} {k:LI→Prop} (h:liK L t k):∃ li i u z,LIs P t li i u z∧k li:=by
 obtain ⟨o,e,hk⟩:=nthK_ok h
 cases o with
 | none=>exact hk.elim
 | some li=>obtain ⟨i,u,z,hl⟩:=hL.get e; exact ⟨li,i,u,z,hl,hk⟩
def VOK (P:Program) (X:Nat→Prop) (m:Mp) (w:World) (s:Sem Value) (k:AV→Hp→Prop):Prop :=
 ∃ v w' m' av H',s.run P w=.ok v w'∧V X m' w' v av∧HRel X m' H' w'∧Ext X m w m' w'∧k av H'
end Go.Abs
