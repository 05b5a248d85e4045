/- What the steps of a frame do to memory, in the relation's words: a new block, a store into a block of the frame's own, a draw, a block let go. No condition. -/
import Derived.Test.YthandbiapckgkaaZA1
import Derived.Laws.Rows
import Derived.Laws.Cells
import Derived.Laws.CopyRow
import Derived.Laws.Append
namespace Go.Abs
variable {X:Nat→Prop} {m m':Mp} {H:Hp} {w w':World}
theorem Ext.of_heap (hh:w'.heap=w.heap) (ho:Same w w':=by exact ⟨rfl,rfl,rfl⟩):Ext X m w m w' :=
 ⟨fun _ _ h=>⟨by rw [hh],h⟩,by rw [hh]; exact Nat.le_refl _,Nat.le_refl _,fun _ _ _ h=>.inr h,fun b n ⟨vs,el,fz,e,h⟩=>⟨vs,el,fz,by rw [hh]; exact e,h⟩,ho⟩
theorem HRel.ext_same (h:HRel X m H w) (hx:Ext X m w m w') (hb:∀ (κ b:Nat),m[κ]?=some (.blk b)→w'.heap[b]?=w.heap[b]?):HRel X m H w' where
 len:=h.len
 blk κ cs hκ:=by
  rcases h.blk κ cs hκ with ⟨b,vs,el,h1,h2,h3⟩ | h0 | ⟨E,b,es,ck,e1,e2,e3,e4⟩
  ·exact .inl ⟨b,vs,el,h1,(hb κ b h1).trans h2,h3.ext hx⟩
  ·exact .inr (.inl h0)
  ·exact .inr (.inr ⟨E,b,es,ck,e1,e2,(hb κ b e2).trans e3,e4.ext hx⟩)
 inj:=h.inj
 lt κ b hκ:=let ⟨l,x⟩:=h.lt κ b hκ; ⟨Nat.lt_of_lt_of_le l hx.size,x⟩
 old b hb:=Nat.lt_of_lt_of_le (h.old b hb) hx.size
 tab:=h.tab.ext hx
theorem HRel.of_heap (h:HRel X m H w) (hh:w'.heap=w.heap) (ho:Same w w':=by exact ⟨rfl,rfl,rfl⟩):HRel X m H w':=h.ext_same (Ext.of_heap hh ho) fun _ _ _=>by rw [hh]
theorem mem_of_get {m:Mp} {κ b:Nat} (h:m[κ]?=some (.blk b)):ME.blk b ∈ m:=List.mem_of_getElem? h
theorem get_of_mem {m:Mp} {b:Nat} (h:ME.blk b ∈ m):∃ κ:Nat,m[κ]?=some (.blk b):=List.getElem?_of_mem h
theorem Ext.alloc (o:Obj) (_:HRel X m H w):Ext X m w (m++[.blk w.heap.size]) (w.alloc o) where
 out:=⟨rfl,rfl,rfl⟩
 keep b hb hm:=by
  refine ⟨heap_alloc_old w o b hb,fun hmem=>?_⟩
  rcases List.mem_append.1 hmem with h1 | h1
  ·exact hm h1
  ·simp at h1; omega
 size:=by simp
 len:=by simp
 same κ b hκ hb:=by rw [List.getElem?_append_left hκ] at hb; exact .inr hb
 room b n:=by
  rintro ⟨vs,el,fz,e,hn⟩
  have hlt:b < w.heap.size:=by
   rcases Nat.lt_or_ge b w.heap.size with hl | hl
   ·exact hl
   ·rw [Array.getElem?_eq_none hl] at e; cases e
  exact ⟨vs,el,fz,(heap_alloc_old w o b hlt).trans e,hn⟩
theorem HRel.alloc {el:TypeId} {vs:Array Value} {B:Blk} (h:HRel X m H w) (hv:BRel X m w vs B) :
  HRel X (m++[.blk w.heap.size]) (H++[some B]) (w.alloc (.cells vs el)):=by
 have hx:Ext X m w (m++[.blk w.heap.size]) (w.alloc (.cells vs el)):=Ext.alloc _ h
 have key:∀ (κ b:Nat),(m++[.blk w.heap.size])[κ]?=some (.blk b)→(κ < m.length∧m[κ]?=some (.blk b))∨(κ=m.length∧b=w.heap.size):=by
  intro κ b hk
  by_cases hlt:κ < m.length
  ·rw [List.getElem?_append_left hlt] at hk; exact .inl ⟨hlt,hk⟩
  ·have:=(List.getElem?_eq_some_iff.1 hk).1
   have:κ=m.length:=by simp at this; omega
   subst this
   simp at hk
   exact .inr ⟨rfl,hk.symm⟩
 refine ⟨by simp [h.len],fun κ ds hκ=>?_,fun κ κ' b h1 h2=>?_,fun κ b h1=>?_,fun b hb=>?_,h.tab.ext hx⟩
 ·by_cases hlt:κ < H.length
  ·rw [List.getElem?_append_left hlt] at hκ
   rcases h.blk κ ds hκ with ⟨b,us,el',h1,h2,h3⟩ | ⟨h0,h1⟩ | ⟨E,b,es,ck,e1,e2,e3,e4⟩
   ·refine .inl ⟨b,us,el',?_,?_,h3.ext hx⟩
    ·rw [List.getElem?_append_left (by rw [h.len]; exact hlt)]; exact h1
    ·rw [heap_alloc_old _ _ _ (h.lt κ b h1).1]; exact h2
   ·exact .inr (.inl ⟨by rw [List.getElem?_append_left (by rw [h.len]; exact hlt)]; exact h0,h1⟩)
   ·exact .inr (.inr ⟨E,b,es,ck,e1,by rw [List.getElem?_append_left (by rw [h.len]; exact hlt)]; exact e2,by rw [heap_alloc_old _ _ _ (h.lt κ b e2).1]; exact e3,e4.ext hx⟩)
  ·have hκ':κ=H.length:=by
    have:=(List.getElem?_eq_some_iff.1 hκ).1
    simp at this; omega
   subst hκ'
   simp at hκ
   subst hκ
   exact .inl ⟨w.heap.size,vs,el,by rw [← h.len]; simp,heap_alloc_new _ _,hv.ext hx⟩
 ·rcases key _ _ h1 with ⟨_,a1⟩ | ⟨a1,b1⟩ <;> rcases key _ _ h2 with ⟨_,a2⟩ | ⟨a2,b2⟩
  ·exact h.inj _ _ _ a1 a2
  ·have:=(h.lt _ _ a1).1; omega
  ·have:=(h.lt _ _ a2).1; omega
  ·omega
 ·rcases key _ _ h1 with ⟨_,a1⟩ | ⟨a1,b1⟩
  ·obtain ⟨a1,a2⟩:=h.lt κ b a1
   exact ⟨by simp; omega,a2⟩
  ·subst b1
   exact ⟨by simp,fun hX=>Nat.lt_irrefl _ (h.old _ hX)⟩
 ·have:=h.old b hb
  simp; omega
theorem V.new_ptr {o:Obj} (h:HRel X m H w):V X (m++[.blk w.heap.size]) (w.alloc o) (.pointer (some ⟨w.heap.size,0,none⟩)) (.pt H.length 0):=by
 refine .pt _ _ _ (by simp [h.len]) rfl (fun b hb=>?_) (fun hb=>by rw [← h.len] at hb; simp at hb)
 rw [← h.len] at hb
 simp at hb
 subst hb
 rfl
theorem V.new_slice {el:TypeId} {vs:Array Value} {k n:Nat} (h:HRel X m H w) (hn:n * k≤vs.size) :
  V X (m++[.blk w.heap.size]) (w.alloc (.cells vs el)) (.slice (some ⟨w.heap.size,0,none⟩) n n) (.sl H.length k 0 n):=by
 refine .sl _ _ _ _ _ (by simp [h.len]) rfl (fun b hb=>?_) (fun hb=>by rw [← h.len] at hb; simp at hb)
 rw [← h.len] at hb
 simp at hb
 subst hb
 exact ⟨n,by simp,Nat.le_refl _,vs,el,(0,0),heap_alloc_new _ _,by simpa using hn⟩
theorem Ext.setRow {κ b:Nat} {vs vs':Array Value} {el:TypeId} (hb:m[κ]?=some (.blk b)) (hg:w.heap[b]?=some (.cells vs el (0,0))) (hs:vs'.size=vs.size):Ext X m w m (w.setRow b vs') where
 out:=⟨rfl,rfl,rfl⟩
 keep b' _ hm:=⟨setRow_other w b b' vs' (fun e=>hm (by subst e; exact mem_of_get hb)),hm⟩
 size:=by simp
 len:=Nat.le_refl _
 same _ _ _ h:=.inr h
 room b' n:=by
  rintro ⟨us,el',fz,e,hn⟩
  by_cases hbb:b'=b
  ·subst hbb
   rw [hg] at e
   simp only [Option.some.injEq,Obj.cells.injEq] at e
   obtain ⟨rfl,rfl,rfl⟩:=e
   exact ⟨vs',el,(0,0),setRow_heap w b' vs vs' el _ hg,by omega⟩
  ·exact ⟨us,el',fz,(setRow_other w b b' vs' hbb).trans e,hn⟩
theorem HRel.setRow {κ b:Nat} {vs vs':Array Value} {el:TypeId} {B B':Blk} (h:HRel X m H w) (hb:m[κ]?=some (.blk b)) (hκ:H[κ]?=some (some B)) (hg:w.heap[b]?=some (.cells vs el (0,0)))
  (hs:vs'.size=vs.size) (hB:BRel X m w vs' B'):HRel X m (H.set κ (some B')) (w.setRow b vs'):=by
 have hx:Ext X m w m (w.setRow b vs'):=Ext.setRow hb hg hs
 refine ⟨by simp [h.len],fun κ' ds hκ'=>?_,h.inj,fun κ b h1=>let ⟨l,x⟩:=h.lt κ b h1; ⟨Nat.lt_of_lt_of_le l hx.size,x⟩,fun b hb=>Nat.lt_of_lt_of_le (h.old b hb) hx.size,h.tab.ext hx⟩
 rw [List.getElem?_set] at hκ'
 by_cases he:κ=κ'
 ·subst he
  have hlt:κ < H.length:=(List.getElem?_eq_some_iff.1 hκ).1
  simp [hlt] at hκ'
  subst hκ'
  exact .inl ⟨b,vs',el,hb,setRow_heap w b vs vs' el _ hg,hB.ext hx⟩
 ·simp [he] at hκ'
  rcases h.blk κ' ds hκ' with ⟨b',us,el',h1,h2,h3⟩ | h0 | ⟨E,b',es,ck,e1,e2,e3,e4⟩
  ·refine .inl ⟨b',us,el',h1,?_,h3.ext hx⟩
   rw [setRow_other _ _ _ _ (fun e=>he (by subst e; exact h.inj _ _ _ hb h1))]
   exact h2
  ·exact .inr (.inl h0)
  ·refine .inr (.inr ⟨E,b',es,ck,e1,e2,?_,e4.ext hx⟩)
   rw [setRow_other _ _ _ _ (fun e=>he (by subst e; exact h.inj _ _ _ hb e2))]
   exact e3
theorem HRel.blk2 (h:HRel X m H w) (κ:Nat) (B:Blk) (hκ:H[κ]?=some (some B)) (hn:∀ E,B≠.mp E:=by intro E h; cases h):(∃ (b:Nat) (vs:Array Value) (el:TypeId),m[κ]?=some (.blk b)∧w.heap[b]?=some (.cells vs el (0,0))∧BRel X m w vs B)∨(m[κ]?=some .nil∧∃ q,B=.arr q []):=by
 rcases h.blk κ B hκ with h0 | h0 | ⟨E,_,_,_,e,_⟩
 ·exact .inl h0
 ·exact .inr h0
 ·exact absurd e (hn E)
theorem HRel.get {κ b:Nat} {B:Blk} (h:HRel X m H w) (hb:m[κ]?=some (.blk b)) (hκ:H[κ]?=some (some B)) (hn:∀ E,B≠.mp E:=by intro E h; cases h):∃ vs el,w.heap[b]?=some (.cells vs el (0,0))∧BRel X m w vs B:=by
 rcases h.blk κ B hκ with ⟨b',vs,el,h1,h2,h3⟩ | ⟨h0,_⟩ | ⟨E,_,_,_,e,_⟩
 ·obtain rfl:b=b':=by rw [hb] at h1; simpa using h1
  exact ⟨vs,el,h2,h3⟩
 ·rw [hb] at h0; simp at h0
 ·exact absurd e (hn E)
theorem Ext.kill (κ:Nat):Ext X m w (m.set κ .dead) w where
 out:=⟨rfl,rfl,rfl⟩
 keep b _ hm:=by
  refine ⟨rfl,fun hmem=>?_⟩
  obtain ⟨j,hj⟩:=get_of_mem hmem
  rw [List.getElem?_set] at hj
  by_cases he:κ=j
  ·simp [he] at hj
  ·simp [he] at hj
   exact hm (mem_of_get hj)
 size:=Nat.le_refl _
 len:=by simp
 same κ' b hκ' hb:=by
  rw [List.getElem?_set] at hb
  by_cases he:κ=κ'
  ·subst he; simp [hκ'] at hb; exact .inl hb.symm
  ·exact .inr (by simpa [he] using hb)
 room _ _ h:=h
theorem HRel.kill (h:HRel X m H w) (κ:Nat):HRel X (m.set κ .dead) (H.set κ none) w:=by
 have sub:∀ (κ' b:Nat),(m.set κ .dead)[κ']?=some (.blk b)→m[κ']?=some (.blk b):=by
  intro κ' b hb
  rw [List.getElem?_set] at hb
  by_cases he:κ=κ'
  ·simp [he] at hb
  ·simpa [he] using hb
 refine ⟨by simp [h.len],fun κ' ds hκ'=>?_,fun a b c h1 h2=>h.inj a b c (sub _ _ h1) (sub _ _ h2),fun κ' b h1=>h.lt κ' b (sub _ _ h1),h.old,h.tab.ext (Ext.kill κ)⟩
 rw [List.getElem?_set] at hκ'
 by_cases he:κ=κ'
 ·simp [he] at hκ'
 ·simp [he] at hκ'
  rcases h.blk κ' ds hκ' with ⟨b,vs,el,h1,h2,h3⟩ | ⟨h0,h1⟩ | ⟨E,b,es,ck,e1,e2,e3,e4⟩
  ·exact .inl ⟨b,vs,el,by rw [List.getElem?_set]; simpa [he] using h1,h2,h3.ext (Ext.kill κ)⟩
  ·exact .inr (.inl ⟨by rw [List.getElem?_set]; simpa [he] using h0,h1⟩)
  ·exact .inr (.inr ⟨E,b,es,ck,e1,by rw [List.getElem?_set]; simpa [he] using e2,e3,e4.ext (Ext.kill κ)⟩)
theorem defers_ext {D:Nat} (hx:Ext X m w m' w') (h:w.heap[D]?=some (.deferred (some []))∧.blk D ∉ m):w'.heap[D]?=some (.deferred (some []))∧.blk D ∉ m':=by
 obtain ⟨h1,h2⟩:=h
 have hlt:D < w.heap.size:=by
  rcases Nat.lt_or_ge D w.heap.size with hl | hl
  ·exact hl
  ·rw [Array.getElem?_eq_none hl] at h1; cases h1
 obtain ⟨k1,k2⟩:=hx.keep D hlt h2
 exact ⟨k1.trans h1,k2⟩
theorem Rel.put [Inhabited DSt] {mb:Mp} {wb:World} {N:Nat} {T:Tp} {a:Act} (h:Rel X mb wb N m T H a w) {H':Hp} (hx:Ext X m w m' w') (hh:HRel X m' H' w') {v:Value} {c:AV} (hv:V X m' w' v c) {d:Nat} (hd:d < N) :
  Rel X mb wb N m' ((d,c)::T) H' (a.put (some d) v) w' where
 ext:=h.ext.trans hx
 size:=by simp [Act.put,h.size]
 tmp t:=by
  simp only [getT,Act.put]
  by_cases e:d=t
  ·subst e
   simp only [Nat.beq_refl,cond_true]
   have:(a.tmps.setIfInBounds d v).getD d undef=v:=by
    rw [Array.getD_eq_getD_getElem?,Array.getElem?_setIfInBounds]
    simp [h.size,hd]
   rw [this]; exact hv
  ·have hb:Nat.beq d t=false:=by
    cases hq:Nat.beq d t with
    | false=>rfl
    | true=>exact absurd (Nat.eq_of_beq_eq_true hq) e
   simp only [hb,cond_false]
   have:(a.tmps.setIfInBounds d v).getD t undef=a.tmps.getD t undef:=by
    rw [Array.getD_eq_getD_getElem?,Array.getD_eq_getD_getElem?,Array.getElem?_setIfInBounds]
    simp [e]
   rw [this]; exact (h.tmp t).ext hx
 heap:=hh
 defers:=by
  obtain ⟨ms,e,nd,hd⟩:=h.defers
  exact ⟨ms,by simpa [Act.put] using e,nd,fun D hD=>⟨defers_ext hx (hd D hD).1,(hd D hD).2⟩⟩
theorem Rel.put_none [Inhabited DSt] {mb:Mp} {wb:World} {N:Nat} {T:Tp} {a:Act} (h:Rel X mb wb N m T H a w) {H':Hp} (hx:Ext X m w m' w') (hh:HRel X m' H' w') (v:Value) :
  Rel X mb wb N m' T H' (a.put none v) w' where
 ext:=h.ext.trans hx
 size:=by simp [Act.put,h.size]
 tmp t:=by simpa [Act.put] using (h.tmp t).ext hx
 heap:=hh
 defers:=by
  obtain ⟨ms,e,nd,hd⟩:=h.defers
  exact ⟨ms,by simpa [Act.put] using e,nd,fun D hD=>⟨defers_ext hx (hd D hD).1,(hd D hD).2⟩⟩
end Go.Abs
