/- Abstract values over the model's values: immutable data as trees, references to a frame's own blocks; the relation between abstract states and worlds; its monotonicity. No condition. -/
import Derived.CallsIn
import Derived.Laws.Sem
namespace Go.Abs
/-- Immutable data. -/
inductive D where
 | b (x:Bool) | i (k:IntKind) (n:Int) | s (x:ByteArray)
 | ls (es:List D) | ag (cs:List D) | fn (f:FuncId) (caps:List D) | fm (f:FuncId) (fs:List D) | ro (cs:List D) | nf | np | ni
def D.cells:D→List D
 | .ag cs=>cs
 | .b x=>[.b x] | .i k n=>[.i k n] | .s x=>[.s x] | .ls es=>[.ls es] | .fn f c=>[.fn f c] | .fm f c=>[.fm f c] | .ro c=>[.ro c] | .nf=>[.nf] | .np=>[.np] | .ni=>[.ni]
/-- Values of a frame: data,or what holds references to the frame's own blocks. -/
inductive AV where
 | d (x:D) | ag (cs:List AV) | tp (vs:List AV) | fn (f:FuncId) (caps:List AV) | fm (f:FuncId) (fs:List AV)
 | sl (κ k off n:Nat) | mr (κ:Nat) | pt (κ off:Nat) | pe (κ k j off:Nat) | nsl | yl (l:Nat) | mx (b:Nat) | cv (v:Value) | vw (κ k off n:Nat) | un
def AV.cells:AV→List AV
 | .ag cs=>cs
 | .d x=>x.cells.map .d
 | .tp vs=>[.tp vs] | .fn f c=>[.fn f c] | .fm f c=>[.fm f c] | .sl q1 q2 q3 q4=>[.sl q1 q2 q3 q4] | .mr q1=>[.mr q1] | .pt q1 q2=>[.pt q1 q2] | .pe q1 q2 q3 q4=>[.pe q1 q2 q3 q4] | .nsl=>[.nsl] | .yl l=>[.yl l] | .mx b=>[.mx b] | .cv v=>[.cv v] | .vw q1 q2 q3 q4=>[.vw q1 q2 q3 q4] | .un=>[.un]
/-- A block of the frame's own: a variable's cells,an array's elements of k cells each,or a map of data. -/
inductive Blk where
 | var (cs:List AV) | arr (k:Nat) (es:List AV) | mp (E:List (D × D))
/-- A value reads as data,its memory lying in blocks of which I holds. -/
inductive Rd (I:Nat→Prop) (w:World):Value→D→Prop where
 | b (x:Bool):Rd I w (.bool x) (.b x)
 | i (k:IntKind) (n:Int):Rd I w (.int k n) (.i k n)
 | s (x:ByteArray):Rd I w (.string x) (.s x)
 | nf:Rd I w .nilFunc .nf
 | np:Rd I w (.pointer none) .np
 | ni:Rd I w .nilIface .ni
 | ag (vs:Array Value) (cs:List D) (hl:vs.size=cs.length) (h1:∀ (j:Nat) v,vs[j]?=some v→v.oneCell'=true) (h:∀ (j:Nat) v c,vs[j]?=some v→cs[j]?=some c→Rd I w v c):Rd I w (.agg vs) (.ag cs)
 | fn (f:FuncId) (vs:Array Value) (cs:List D) (hl:vs.size=cs.length) (h:∀ (j:Nat) v c,vs[j]?=some v→cs[j]?=some c→Rd I w v c):Rd I w (.func (.func f) #[] vs) (.fn f cs)
 | fm (f:FuncId) (vs:Array Value) (cs:List D) (hl:vs.size=cs.length) (h:∀ (j:Nat) v c,vs[j]?=some v→cs[j]?=some c→Rd I w v c):Rd I w (.func (.func f) vs #[]) (.fm f cs)
 | nil:Rd I w (.slice none 0 0) (.ls [])
 | lz (a:Addr):Rd I w (.slice (some a) 0 0) (.ls [])
 | ls (bk off cap k:Nat) (es:List D) (vs:Nat→Nat→Value) (hI:I bk) (hc:es.length≤cap) (hk:∀ e,e ∈ es→e.cells.length=k)
   (hw:∀ (j:Nat) e (l:Nat) c,es[j]?=some e→e.cells[l]?=some c→w.cell? ⟨bk,off+j * k+l,none⟩=some (vs j l)∧(vs j l).oneCell'=true)
   (h:∀ (j:Nat) e (l:Nat) c,es[j]?=some e→e.cells[l]?=some c→Rd I w (vs j l) c):Rd I w (.slice (some ⟨bk,off,none⟩) es.length cap) (.ls es)
 | ro (bk off:Nat) (cs:List D) (vs:Nat→Value) (hI:I bk) (hw:∀ (l:Nat) c,cs[l]?=some c→w.cell? ⟨bk,off+l,none⟩=some (vs l)∧(vs l).oneCell'=true)
   (h:∀ (l:Nat) c,cs[l]?=some c→Rd I w (vs l) c):Rd I w (.pointer (some ⟨bk,off,none⟩)) (.ro cs)
theorem cell_of_heap {w w':World} {b:Nat} (h:w'.heap[b]?=w.heap[b]?) (o:Nat):w'.cell? ⟨b,o,none⟩=w.cell? ⟨b,o,none⟩:=by
 simp only [World.cell?,h]
theorem Rd.mono {I I':Nat→Prop} {w w':World} (hI:∀ b,I b→I' b∧w'.heap[b]?=w.heap[b]?) {v:Value} {x:D} (h:Rd I w v x):Rd I' w' v x:=by
 induction h with
 | b=>exact .b _
 | i=>exact .i _ _
 | s=>exact .s _
 | nf=>exact .nf
 | np=>exact .np
 | ni=>exact .ni
 | ag vs cs hl h1 _ ih=>exact .ag vs cs hl h1 ih
 | fn f vs cs hl _ ih=>exact .fn f vs cs hl ih
 | fm f vs cs hl _ ih=>exact .fm f vs cs hl ih
 | nil=>exact .nil
 | lz a=>exact .lz a
 | ls bk off cap k es vs hb hc hk hw _ ih =>
  exact .ls bk off cap k es vs (hI _ hb).1 hc hk (fun j e l c h1 h2=>by rw [cell_of_heap (hI _ hb).2]; exact hw j e l c h1 h2) ih
 | ro bk off cs vs hb hw _ ih =>
  exact .ro bk off cs vs (hI _ hb).1 (fun l c h1=>by rw [cell_of_heap (hI _ hb).2]; exact hw l c h1) ih
/-- What a block of the frame's own is in the world: let go; a nil slice's,which has none; block b. -/
inductive ME where
 | dead | nil | blk (b:Nat)
abbrev Mp:=List ME
abbrev Hp:=List (Option Blk)
abbrev Tp:=List (Nat × AV)
def Imm (X:Nat→Prop) (m:Mp) (w:World) (b:Nat):Prop:=b < w.heap.size∧¬ X b∧.blk b ∉ m
def roomAt (w:World) (b n:Nat):Prop:=∃ vs el fz,w.heap[b]?=some (.cells vs el fz)∧n≤vs.size
inductive V (X:Nat→Prop) (m:Mp) (w:World):Value→AV→Prop where
 | d (v:Value) (x:D) (h:Rd (Imm X m w) w v x):V X m w v (.d x)
 | ag (vs:Array Value) (cs:List AV) (hl:vs.size=cs.length) (h1:∀ (j:Nat) v,vs[j]?=some v→v.oneCell'=true) (h:∀ (j:Nat) v c,vs[j]?=some v→cs[j]?=some c→V X m w v c):V X m w (.agg vs) (.ag cs)
 | tp (vs:Array Value) (cs:List AV) (hl:vs.size=cs.length) (h:∀ (j:Nat) v c,vs[j]?=some v→cs[j]?=some c→V X m w v c):V X m w (.tuple vs) (.tp cs)
 | fn (f:FuncId) (vs:Array Value) (cs:List AV) (hl:vs.size=cs.length) (h:∀ (j:Nat) v c,vs[j]?=some v→cs[j]?=some c→V X m w v c):V X m w (.func (.func f) #[] vs) (.fn f cs)
 | fm (f:FuncId) (vs:Array Value) (cs:List AV) (hl:vs.size=cs.length) (h:∀ (j:Nat) v c,vs[j]?=some v→cs[j]?=some c→V X m w v c):V X m w (.func (.func f) vs #[]) (.fm f cs)
 | sl (v:Value) (κ k off n:Nat) (hκ:κ < m.length) (h1:v.oneCell'=true)
   (h:∀ b,m[κ]?=some (.blk b)→∃ cap,v=.slice (some ⟨b,off * k,none⟩) n cap∧n≤cap∧roomAt w b (off * k+cap * k))
   (h0:m[κ]?=some .nil→v=.slice none 0 0∧n=0):V X m w v (.sl κ k off n)
 | pe (v:Value) (κ k j off:Nat) (hκ:κ < m.length) (h1:v.oneCell'=true) (h:∀ b,m[κ]?=some (.blk b)→v=.pointer (some ⟨b,j * k+off,none⟩)) (h0:m[κ]?≠some .nil):V X m w v (.pe κ k j off)
 | mr (v:Value) (κ:Nat) (hκ:κ < m.length) (h1:v.oneCell'=true) (h:∀ b,m[κ]?=some (.blk b)→v=.map (some b)) (h0:m[κ]?≠some .nil):V X m w v (.mr κ)
 | pt (v:Value) (κ off:Nat) (hκ:κ < m.length) (h1:v.oneCell'=true) (h:∀ b,m[κ]?=some (.blk b)→v=.pointer (some ⟨b,off,none⟩)) (h0:m[κ]?≠some .nil):V X m w v (.pt κ off)
 | nsl:V X m w (.slice none 0 0) .nsl
 | yl (l:Nat):V X m w (.func (.yield l) #[] #[]) (.yl l)
 | mx (b:Nat):V X m w (.map (some b)) (.mx b)
 | cv (v:Value):V X m w v (.cv v)
 | vw (v:Value) (κ k off n:Nat) (hκ:κ < m.length) (h:∀ b,m[κ]?=some (.blk b)→∃ base cap,v=.slice (some ⟨b,base,none⟩) n cap∧n≤cap∧(n=0∨base=off * k)) (h0:m[κ]?=some .nil→v=.slice none 0 0∧n=0):V X m w v (.vw κ k off n)
 | un (v:Value):V X m w v .un
def Same (w w':World):Prop:=w'.os=w.os∧w'.output=w.output∧w'.tape=w.tape
/-- What a step may do to the memory. -/
structure Ext (X:Nat→Prop) (m:Mp) (w:World) (m':Mp) (w':World):Prop where
 keep:∀ b,b < w.heap.size→.blk b ∉ m→w'.heap[b]?=w.heap[b]?∧.blk b ∉ m'
 size:w.heap.size≤w'.heap.size
 len:m.length≤m'.length
 same:∀ (κ:Nat) e,κ < m.length→m'[κ]?=some e→e=.dead∨m[κ]?=some e
 room:∀ b n,roomAt w b n→roomAt w' b n
 out:Same w w'
theorem Ext.refl (X:Nat→Prop) (m:Mp) (w:World):Ext X m w m w :=
 ⟨fun _ _ h=>⟨rfl,h⟩,Nat.le_refl _,Nat.le_refl _,fun _ _ _ h=>.inr h,fun _ _ h=>h,rfl,rfl,rfl⟩
theorem Ext.trans {X:Nat→Prop} {m m' m'':Mp} {w w' w'':World} (h:Ext X m w m' w') (h':Ext X m' w' m'' w''):Ext X m w m'' w'' where
 keep b hb hm:=by
  obtain ⟨e1,n1⟩:=h.keep b hb hm
  obtain ⟨e2,n2⟩:=h'.keep b (Nat.lt_of_lt_of_le hb h.size) n1
  exact ⟨e2.trans e1,n2⟩
 size:=Nat.le_trans h.size h'.size
 len:=Nat.le_trans h.len h'.len
 same κ b hκ hb:=(h'.same κ b (Nat.lt_of_lt_of_le hκ h.len) hb).elim .inl (h.same κ b hκ)
 room b n hr:=h'.room b n (h.room b n hr)
 out:=⟨h'.out.1.trans h.out.1,h'.out.2.1.trans h.out.2.1,h'.out.2.2.trans h.out.2.2⟩
theorem Ext.imm {X:Nat→Prop} {m m':Mp} {w w':World} (h:Ext X m w m' w') {b:Nat} (hb:Imm X m w b):Imm X m' w' b∧w'.heap[b]?=w.heap[b]? :=
 let ⟨e,n⟩:=h.keep b hb.1 hb.2.2
 ⟨⟨Nat.lt_of_lt_of_le hb.1 h.size,hb.2.1,n⟩,e⟩
theorem Rd.ext {X:Nat→Prop} {m m':Mp} {w w':World} (h:Ext X m w m' w') {v:Value} {x:D} (hv:Rd (Imm X m w) w v x):Rd (Imm X m' w') w' v x :=
 hv.mono fun _ hb=>h.imm hb
theorem V.ext {X:Nat→Prop} {m m':Mp} {w w':World} (h:Ext X m w m' w') {v:Value} {x:AV} (hv:V X m w v x):V X m' w' v x:=by
 induction hv with
 | d v x hr=>exact .d v x (hr.ext h)
 | ag vs cs hl h1 _ ih=>exact .ag vs cs hl h1 ih
 | tp vs cs hl _ ih=>exact .tp vs cs hl ih
 | fn f vs cs hl _ ih=>exact .fn f vs cs hl ih
 | fm f vs cs hl _ ih=>exact .fm f vs cs hl ih
 | sl v κ k off n hκ h1 hh h0 =>
  refine .sl v κ k off n (Nat.lt_of_lt_of_le hκ h.len) h1 (fun b hb=>?_) (fun hb=>?_)
  ·obtain ⟨cap,e,hn,hr⟩:=hh b ((h.same κ _ hκ hb).resolve_left (by simp))
   exact ⟨cap,e,hn,h.room _ _ hr⟩
  ·exact h0 ((h.same κ _ hκ hb).resolve_left (by simp))
 | pe v κ k j off hκ h1 hh h0=>exact .pe v κ k j off (Nat.lt_of_lt_of_le hκ h.len) h1 (fun b hb=>hh b ((h.same κ _ hκ hb).resolve_left (by simp))) fun hn=>h0 ((h.same κ _ hκ hn).resolve_left (by simp))
 | mr v κ hκ h1 hh h0=>exact .mr v κ (Nat.lt_of_lt_of_le hκ h.len) h1 (fun b hb=>hh b ((h.same κ _ hκ hb).resolve_left (by simp))) fun hn=>h0 ((h.same κ _ hκ hn).resolve_left (by simp))
 | pt v κ off hκ h1 hh h0=>exact .pt v κ off (Nat.lt_of_lt_of_le hκ h.len) h1 (fun b hb=>hh b ((h.same κ _ hκ hb).resolve_left (by simp))) fun hn=>h0 ((h.same κ _ hκ hn).resolve_left (by simp))
 | nsl=>exact .nsl
 | yl l=>exact .yl l
 | mx b=>exact .mx b
 | cv v=>exact .cv v
 | vw v κ k off n hκ hh h0=>exact .vw v κ k off n (Nat.lt_of_lt_of_le hκ h.len) (fun b hb=>hh b ((h.same κ _ hκ hb).resolve_left (by simp))) fun hb=>h0 ((h.same κ _ hκ hb).resolve_left (by simp))
 | un v=>exact .un v
def C (X:Nat→Prop) (m:Mp) (w:World) (v:Value) (c:AV):Prop:=V X m w v c∧v.oneCell'=true
theorem C.ext {X:Nat→Prop} {m m':Mp} {w w':World} (h:Ext X m w m' w') {v:Value} {x:AV} (hv:C X m w v x):C X m' w' v x:=⟨hv.1.ext h,hv.2⟩
def BRel (X:Nat→Prop) (m:Mp) (w:World) (vs:Array Value):Blk→Prop
 | .var cs=>∀ (j:Nat) c,cs[j]?=some c→∃ v,vs[j]?=some v∧C X m w v c
 | .arr k es=>(∀ e,e ∈ es→e.cells.length=k)∧∀ (j:Nat) e (l:Nat) c,es[j]?=some e→e.cells[l]?=some c→∃ v,vs[j * k+l]?=some v∧C X m w v c
 | .mp _=>False
def MRel (X:Nat→Prop) (m:Mp) (w:World) (es:Array MapEntry) (E:List (D × D)):Prop :=
 es.size=E.length∧∀ (j:Nat) k d,E[j]?=some (k,d)→∃ e,es[j]?=some e∧Rd (Imm X m w) w e.key k∧Rd (Imm X m w) w e.val d∧e.val.oneCell'=true
theorem MRel.mono {X X':Nat→Prop} {m m':Mp} {w w':World} (h:∀ b,Imm X m w b→Imm X' m' w' b∧w'.heap[b]?=w.heap[b]?) {es:Array MapEntry} {E:List (D × D)} (hm:MRel X m w es E):MRel X' m' w' es E :=
 ⟨hm.1,fun j k d he=>let ⟨e,h1,h2,h3,h4⟩:=hm.2 j k d he; ⟨e,h1,h2.mono h,h3.mono h,h4⟩⟩
theorem MRel.ext {X:Nat→Prop} {m m':Mp} {w w':World} (h:Ext X m w m' w') {es:Array MapEntry} {E:List (D × D)} (hm:MRel X m w es E):MRel X m' w' es E :=
 ⟨hm.1,fun j k d he=>let ⟨e,h1,h2,h3,h4⟩:=hm.2 j k d he; ⟨e,h1,h2.ext h,h3.ext h,h4⟩⟩
theorem BRel.ext {X:Nat→Prop} {m m':Mp} {w w':World} (h:Ext X m w m' w') {vs:Array Value} {B:Blk} (hb:BRel X m w vs B):BRel X m' w' vs B:=by
 cases B with
 | var cs=>exact fun j c hc=>let ⟨v,e,hv⟩:=hb j c hc; ⟨v,e,hv.ext h⟩
 | arr k es=>exact ⟨hb.1,fun j e l c h1 h2=>let ⟨v,e,hv⟩:=hb.2 j e l c h1 h2; ⟨v,e,hv.ext h⟩⟩
 | mp E=>exact hb
def TabL (g:Nat) (cs:Array Value):Prop:=False
structure TabX (X:Nat→Prop) (m:Mp) (w:World):Prop where
 get:∀ g cs,TabL g cs→(∃ el fz,w.heap[g]?=some (.cells cs el fz))∧¬ X g∧.blk g ∉ m
theorem TabX.ext {X:Nat→Prop} {m m':Mp} {w w':World} (h:Ext X m w m' w') (t:TabX X m w):TabX X m' w' where
 get g cs hg:=by
  obtain ⟨⟨el,fz,h1⟩,h2,h3⟩:=t.get g cs hg
  have hlt:g < w.heap.size:=by
   rcases Nat.lt_or_ge g w.heap.size with hl | hl
   ·exact hl
   ·rw [Array.getElem?_eq_none hl] at h1; cases h1
  obtain ⟨k1,k2⟩:=h.keep g hlt h3
  exact ⟨⟨el,fz,k1.trans h1⟩,h2,k2⟩
theorem TabX.sub {X:Nat→Prop} {m m':Mp} {w:World} (h:∀ b,ME.blk b ∈ m'→ME.blk b ∈ m) (t:TabX X m w):TabX X m' w where
 get g cs hg:=let ⟨h1,h2,h3⟩:=t.get g cs hg; ⟨h1,h2,fun hm=>h3 (h g hm)⟩
theorem TabX.nil {X:Nat→Prop} {m:Mp} {w:World} (t:TabX X m w):TabX X [] w:=t.sub fun _ h=>by cases h
/-- The frame's own blocks are in the world as the abstract heap says. -/
structure HRel (X:Nat→Prop) (m:Mp) (H:Hp) (w:World):Prop where
 len:m.length=H.length
 blk:∀ (κ:Nat) (B:Blk),H[κ]?=some (some B)→(∃ (b:Nat) (vs:Array Value) (el:TypeId),m[κ]?=some (.blk b)∧w.heap[b]?=some (.cells vs el (0,0))∧BRel X m w vs B)∨(m[κ]?=some .nil∧∃ q,B=.arr q [])∨∃ (E:List (D × D)) (b:Nat) (es:Array MapEntry) (ck:Nat),B=.mp E∧m[κ]?=some (.blk b)∧w.heap[b]?=some (.map es ck)∧MRel X m w es E
 inj:∀ (κ κ':Nat) b,m[κ]?=some (.blk b)→m[κ']?=some (.blk b)→κ=κ'
 lt:∀ (κ b:Nat),m[κ]?=some (.blk b)→b < w.heap.size∧¬ X b
 old:∀ b,X b→b < w.heap.size
 tab:TabX X m w
def getT:Tp→Nat→AV
 | [],_=>.un
 | (t,v)::T,n=>bif Nat.beq t n then v else getT T n
def marks (ms:List Nat):List Deferred:=ms.map fun D=>{ target:=.collected D,args:=#[] }
/-- The deferred calls of the frame that stand below the marks: what the code at hand leaves alone. -/
structure DSt where
 ds:List Deferred
@[reducible,instance] def ds0:Inhabited DSt:=⟨⟨[]⟩⟩
def dsv [Inhabited DSt]:List Deferred:=(default:DSt).ds
theorem dsv_nil:@dsv ds0=[]:=rfl
structure Rel [Inhabited DSt] (X:Nat→Prop) (mb:Mp) (wb:World) (N:Nat) (m:Mp) (T:Tp) (H:Hp) (a:Act) (w:World):Prop where
 ext:Ext X mb wb m w
 size:a.tmps.size=N
 tmp:∀ t,V X m w (a.tmps.getD t undef) (getT T t)
 heap:HRel X m H w
 defers:∃ ms:List Nat,a.defers=marks ms++dsv∧ms.Nodup∧∀ D ∈ ms,(w.heap[D]?=some (.deferred (some []))∧.blk D ∉ m)∧wb.heap.size≤D
end Go.Abs
