/- What models are made of, and how the stops of a walk follow them. No condition. -/
import Derived.Test.YthandbiapckgkaaZB2
namespace Go.Abs
variable {P:Program} {X:Nat→Prop} {m m':Mp} {H:Hp} {w w':World}
abbrev w64 (n:Int):Int:=IntKind.i64.wrap n
def idx {α:Type} (l:List α) (i:Int):Option α:=if 0≤i then l[i.toNat]? else none
def app {α:Type} (b:Nat) (l r:List α):Option (List α):=if (l.length+r.length) * b≤140737488355328∧l.length+r.length < 9223372036854775808 then some (l++r) else none
def mkN (b:Nat) (n:Int):Option Nat:=if 0≤n∧b * n.toNat≤281474976710656∧n < 9223372036854775808 then some n.toNat else none
def mkZ (b:Nat) (n:Int):Option Nat:=if 0 < n∧n.toNat * b≤140737488355328∧n < 9223372036854775808 then some n.toNat else none
def slcFrom {α:Type} (l:List α) (a:Int):Option (List α):=if 0≤a∧a≤l.length then some (l.drop a.toNat) else none
def slcTo {α:Type} (l:List α) (b:Int):Option (List α):=if 0≤b∧b≤l.length then some (l.take b.toNat) else none
def foldO {σ α:Type} (f:α→σ→Option σ):List α→σ→Option σ
 | [],s=>some s
 | a::l,s=>(f a s).bind (foldO f l)
abbrev maxG (p q:Int):Int:=if q > p then q else p
abbrev minG (p q:Int):Int:=if q < p then q else p
/- Encodings. -/
def eI (n:Int):D:=.i .i64 n
def eB (b:Bool):D:=.b b
def eL {α:Type} (f:α→D) (l:List α):D:=.ls (List.map f l)
theorem aQ {α:Type} {f:α→D} {l:List α} {q:Nat} (h:∀ a,(AV.d (f a)).cells.length=q):∀ e,e ∈ List.map AV.d (List.map f l)→e.cells.length=q:=by
 intro e he
 simp only [List.mem_map] at he
 obtain ⟨_,⟨a,_,rfl⟩,rfl⟩:=he
 exact h a
theorem bS {α β:Type} {o:Option α} {f:α→Option β} {r:β} (h:o.bind f=some r):∃ x,o=some x∧f x=some r:=by
 cases o with
 | none=>cases h
 | some x=>exact ⟨x,rfl,h⟩
theorem idx_some {α:Type} {l:List α} {i:Int} {x:α} (h:idx l i=some x):i=(i.toNat:Int)∧l[i.toNat]?=some x:=by
 unfold idx at h
 split at h
 ·exact ⟨by omega,h⟩
 ·cases h
theorem cB {ρ:Type} {b:Bool} {o1 o2:Option ρ} {r:ρ} {A B:Prop} (h:(bif b then o1 else o2)=some r) (hx:b=true→o1=some r→A) (hy:b=false→o2=some r→B):condS b A B :=
 condS_mk (fun e=>hx e (by rw [e] at h; exact h)) (fun e=>hy e (by rw [e] at h; exact h))
theorem condS_kt {b:Bool} {A B:Prop} (h:b=true) (hk:A):condS b A B:=condS_mk (fun _=>hk) (fun e=>by rw [h] at e; cases e)
theorem condS_kf {b:Bool} {A B:Prop} (h:b=false) (hk:B):condS b A B:=condS_mk (fun e=>by rw [h] at e; cases e) (fun _=>hk)
theorem ixP_of {α:Type} {f:α→D} {l:List α} {i:Int} {x:α} {k:D→Prop} (h:idx l i=some x) (hk:k (f x)):ixP (l.map f) i k:=by
 obtain ⟨h1,h2⟩:=idx_some h
 exact ixP_mk i.toNat (f x) h1 (by rw [List.getElem?_map,h2]; rfl) hk
theorem ixS_of {α:Type} {l:List α} {i:Int} {x:α} {n:Nat} {k:Nat→Prop} (h:idx l i=some x) (hn:n=l.length) (hk:k i.toNat):ixS n i k:=by
 obtain ⟨h1,h2⟩:=idx_some h
 exact ixS_mk i.toNat h1 (by rw [hn]; exact (List.getElem?_eq_some_iff.1 h2).1) hk
theorem elP_of {α:Type} {f:α→D} {l:List α} {i:Int} {x:α} {k:AV→Prop} (h:idx l i=some x) (hk:k (.d (f x))):elP ((l.map f).map .d) (0+i.toNat) k:=by
 obtain ⟨_,h2⟩:=idx_some h
 exact elP_mk _ (by rw [Nat.zero_add,List.getElem?_map,List.getElem?_map,h2]; rfl) hk
theorem msS_of {n n':Int} {b j:Nat} {k:Nat→Prop} (h:mkN b n=some j) (hn:n'=n) (hk:k j):msS n n' b k:=by
 unfold mkN at h
 split at h
 ·rename_i hc
  cases h
  exact msS_mk n.toNat (by omega) (by omega) hc.2.1 (by omega) hk
 ·cases h
theorem azS_of {n:Int} {b j:Nat} {k:Nat→Prop} (h:mkZ b n=some j) (hk:k j):azS n b k:=by
 unfold mkZ at h
 split at h
 ·rename_i hc
  cases h
  exact azS_mk n.toNat (by omega) (by omega) hc.2.1 (by omega) hk
 ·cases h
theorem slcTo_len {α:Type} {l s:List α} {b:Int} (h:slcTo l b=some s):b.toNat=s.length:=by
 unfold slcTo at h
 split at h
 ·rename_i hc
  cases h
  simp; omega
 ·cases h
theorem apS_of {α:Type} {b q n:Nat} {l r s:List α} {xs:List AV} {k:Prop} (h:app b l r=some s) (hq:∀ e,e ∈ xs→e.cells.length=q) (hn:n=l.length) (hx:xs.length=r.length) (hk:s=l++r→k):apS q b n xs k:=by
 unfold app at h
 split at h
 ·rename_i hc
  cases h
  exact apS_mk hq (by rw [hn,hx]; exact hc.1) (by rw [hn,hx]; exact hc.2) (hk rfl)
 ·cases h
theorem slS_to {α:Type} {l s:List α} {a b:Int} {n:Nat} {k:Nat→Nat→Prop} (h:slcTo l b=some s) (hn:n=l.length) (ha:a=0) (hk:s=l.take b.toNat→k 0 b.toNat):slS a b n k:=by
 unfold slcTo at h
 split at h
 ·rename_i hc
  cases h
  exact slS_mk 0 b.toNat (by omega) (by omega) (by omega) (by omega) (hk rfl)
 ·cases h
theorem Tr.cutQ [Inhabited DSt] {α:Type} {cx:Cx} {A:Code} {T:Tp} {H:Hp} {Q:Post} (Sc:α→Tp × Hp) (G:α→Prop)
  (hA:Tr P cx A T H fun e T' H'=>match e with
   | .normal=>∃ s,G s∧Wk cx.F T' H' (Sc s).1 (Sc s).2
   | e=>Q e T' H')
  (hB:∀ s,G s→∀ T' H',Wk cx.F T' H' (Sc s).1 (Sc s).2→Q .normal T' H'):Tr P cx A T H Q:=by
 refine hA.mono ?_
 rintro e T' H' h
 cases e with
 | normal=>obtain ⟨s,hg,hw⟩:=h; exact hB s hg T' H' hw
 | _=>exact h
theorem Tr.cutQ1 [Inhabited DSt] {cx:Cx} {A:Code} {T:Tp} {H:Hp} {Q:Post} (Tc:Tp) (Hc:Hp)
  (hA:Tr P cx A T H fun e T' H'=>match e with
   | .normal=>Wk cx.F T' H' Tc Hc
   | e=>Q e T' H')
  (hB:∀ T' H',Wk cx.F T' H' Tc Hc→Q .normal T' H'):Tr P cx A T H Q:=by
 refine hA.mono ?_
 rintro e T' H' h
 cases e with
 | normal=>exact hB T' H' h
 | _=>exact h
theorem Wk.trans [Inhabited DSt] {F:Nat} {T T' T'':Tp} {H H' H'':Hp} (h:Wk F T H T' H') (h':Wk F T' H' T'' H''):Wk F T H T'' H'':=by
 unfold Wk at *
 intro X mb wb N m a w hmb hr
 obtain ⟨m1,hr1,s1⟩:=h X mb wb N m a w hmb hr
 obtain ⟨m2,hr2,s2⟩:=h' X mb wb N m1 a w hmb hr1
 exact ⟨m2,hr2,fun b hb=>s1 b (s2 b hb)⟩
theorem foldO_split {σ α:Type} {f:α→σ→Option σ}:∀ {l:List α} {s s':σ},foldO f l s=some s'→∃ ss:Nat→σ,ss 0=s∧ss l.length=s'∧∀ (i:Nat) a,l[i]?=some a→f a (ss i)=some (ss (i+1))
 | [],s,s',h=>by
  simp only [foldO,Option.some.injEq] at h
  exact ⟨fun _=>s,rfl,h,fun i a ha=>by simp at ha⟩
 | a::l,s,s',h=>by
  obtain ⟨s1,h1,h2⟩:=bS h
  obtain ⟨ss,e0,e1,hs⟩:=foldO_split h2
  refine ⟨fun i=>match i with
   | 0=>s
   | i+1=>ss i,rfl,by simpa using e1,fun i b hb=>?_⟩
  cases i with
  | zero=>simp at hb; subst hb; rw [h1,← e0]
  | succ i=>exact hs i b (by simpa using hb)
/- So many rounds of a loop,one by one. -/
@[irreducible] def TrN [Inhabited DSt] (P:Program) (cx:Cx) (c:Code) (n:Nat) (T:Tp) (H:Hp) (Q:Post):Prop :=
 ∀ (X:Nat→Prop) (mb:Mp) (wb:World) (m:Mp) (a:Act) (w:World),mb.length=cx.F→Rel X mb wb cx.N m T H a w→Code.roundsX (Fw cx.ro) 0 P c (fun e a w=>∃ m T H,Rel X mb wb cx.N m T H a w∧Q e T H) n a w
theorem Tr.loopN [Inhabited DSt] {cx:Cx} {c:Code} {T:Tp} {H:Hp} {Q:Post} (n:Nat) (h:TrN P cx c n T H Q):Tr P cx (.loop c) T H Q:=by
 unfold TrN at h
 unfold Tr
 intro X mb wb m a w hF hr
 exact wpX_loop_rounds n (h X mb wb m a w hF hr)
theorem TrN.succ [Inhabited DSt] {cx:Cx} {c:Code} {n:Nat} {T:Tp} {H:Hp} {Q:Post} (h:Tr P cx c T H fun e T H=>match e with
  | .normal=>TrN P cx c n T H Q
  | e=>Q e T H):TrN P cx c (n+1) T H Q:=by
 unfold TrN Tr at *
 intro X mb wb m a w hF hr
 rw [roundsX_succ]
 refine wpX_mono (h X mb wb m a w hF hr) ?_
 rintro e a w ⟨m1,T1,H1,hr1,hq⟩
 cases e with
 | normal=>exact hq X mb wb m1 a w hF hr1
 | _=>exact ⟨m1,T1,H1,hr1,hq⟩
theorem frE_of {α:Type} {f0:AV→Hp→(D→Hp→Prop)→Prop} {f:α→D} {l:List α} {n:Nat} {k:List D→Hp→Prop} (hn:n=l.length) (hk:k (l.map f) H):frE f0 ((l.map f).map .d) n H k:=frE_ds _ rfl (by simp [hn]) hk
/- Strings and arrays. -/
/-- A plan,as an element of a list: not looked into. -/
structure TPlan0 where
 a:D
 b:D
/-- A plan that is looked into. -/
structure TPlan where
 Look:Int
 After:List TPlan0
def uP0:D→Option TPlan0
 | .ag [a,b]=>some ⟨a,b⟩
 | _=>none
def uL0:List D→Option (List TPlan0)
 | []=>some []
 | d::r=>(uP0 d).bind fun x=>(uL0 r).map fun l=>x::l
def uTPlan (x:TPlan0):Option TPlan:=match x.a,x.b with
 | .i .i64 n,.ls es=>(uL0 es).map fun l=>⟨n,l⟩
 | _,_=>none
end Go.Abs
