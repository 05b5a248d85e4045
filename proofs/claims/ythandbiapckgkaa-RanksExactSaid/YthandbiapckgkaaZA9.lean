/- append: the abstract operation and why it is sound. No condition. -/
import Derived.Test.YthandbiapckgkaaZA8
import Derived.Lib.AppendZerosOnto
namespace Go.Abs
variable {P:Program} {X:Nat→Prop} {m m':Mp} {H:Hp} {w w':World}
/- Literals: a block of the frame's own,or data from the start. -/
@[irreducible] def orB (A B:Prop):Prop:=A∨B
theorem orB_l {A B:Prop} (h:A):orB A B:=by unfold orB; exact .inl h
theorem orB_r {A B:Prop} (h:B):orB A B:=by unfold orB; exact .inr h
def bsP (le:LI) (len:Nat) (parts:List (Nat × AV)) (H:Hp) (k:AV→Hp→Prop):Prop :=
 bif Nat.ble (len * le.size) 16777216 && Nat.beq parts.length len then bsK le.size 0 parts fun es=>orB (pushK H (.arr le.size es) fun n H'=>k (.sl n le.size 0 len) H') (mapK (frz 6) es H fun ds H'=>k (.d (.ls ds)) H') else False
theorem bsP_ok {t:TypeId} {li le:LI} {i ie:TypeInfo} {u ue:TypeDesc} {z ze:Value} (hl:LIs P t li i u z) (hsl:li.sl=true) (hle:LIs P li.elem le ie ue ze) (hh:HRel X m H w) (ρ:Operand→Value) (σ:Operand→AV) (hρ:∀ x,V X m w (ρ x) (σ x))
  (len:Nat) (parts:Array (Nat × Operand)) {k:AV→Hp→Prop} (h:bsP le len (parts.toList.map fun p=>(p.1,σ p.2)) H k) :
  VOK P X m w (Instr.buildSlice t len (parts.map fun (i,x)=>(i,ρ x))) k:=by
 have hu:=hl.slice hsl
 subst hu
 unfold bsP at h
 cases hc:Nat.ble (len * le.size) 16777216 && Nat.beq (parts.toList.map fun p=>(p.1,σ p.2)).length len with
 | false=>rw [hc] at h; exact h.elim
 | true =>
 rw [hc] at h
 simp only [Bool.and_eq_true] at hc
 have hb:=Nat.le_of_ble_eq_true hc.1
 have hlen:=Nat.eq_of_beq_eq_true hc.2
 simp only [List.length_map,Array.length_toList] at hlen
 simp only [cond_true] at h
 obtain ⟨zc,hzc⟩:∃ zc:Array Value,zc=if len * ie.size=0 then #[] else ze.cells:=⟨_,rfl⟩
 obtain ⟨cells',es,hfill,hs',hel,_,hes,hk⟩:=bs_ok ρ σ hρ parts.toList 0 ((Array.range (len * ie.size)).map (zc[· % zc.size]!)) h (by simp [hlen,hle.size])
 have hrun:(Instr.buildSlice t len (parts.map fun (i,x)=>(i,ρ x))).run P w=.ok (.slice (some ⟨w.heap.size,0,none⟩) len len) (w.alloc (.cells cells' li.elem)):=by
  have hb':¬ (16777216 < len * ie.size):=by rw [← hle.size]; omega
  rw [hle.size] at hfill
  by_cases h0:len * ie.size=0
  ·rw [if_pos h0] at hzc
   subst hzc
   simp [Instr.buildSlice,underlying,hl.und,sizeOf,typeInfo,hle.info,h0,newRow]
   rw [h0] at hfill
   have e0:∀ f:Nat→Value,Array.map f (Array.range 0)=#[]:=fun f=>by simp
   rw [e0] at hfill ⊢
   simp [hfill]
  ·rw [if_neg h0] at hzc
   subst hzc
   simp [Instr.buildSlice,underlying,hl.und,sizeOf,typeInfo,hle.info,hb',h0,newRow,zeroValue,hle.zero]
   simp [hfill]
 have hsz:len * le.size≤cells'.size:=by rw [hs']; simp [hle.size]
 unfold orB at hk
 rcases hk with hk | hk
 ·refine VOK.newSlice (el:=li.elem) (cells:=cells') (q:=le.size) (n:=len) (es:=es) hrun hh hsz ⟨fun e he=>?_,fun j e l c he hc=>?_⟩ (pushK_ok hk)
  ·obtain ⟨j,hj⟩:=List.getElem?_of_mem he
   exact (hes j e hj).1
  ·obtain ⟨_,b⟩:=hes j e he
   simpa using b l c hc
 ·have hx:Ext X m w m (w.alloc (.cells cells' li.elem)):=⟨fun b hb hm=>⟨heap_alloc_old _ _ _ hb,hm⟩,by simp,Nat.le_refl _,fun _ _ _ h=>.inr h,(Ext.alloc (X:=X) (.cells cells' li.elem) hh).room,rfl,rfl,rfl⟩
  have hh':HRel X m H (w.alloc (.cells cells' li.elem)):=hh.ext_same hx fun κ b hκ=>heap_alloc_old _ _ _ (hh.lt κ b hκ).1
  have hel':es.length=len:=by rw [hel]; simpa using hlen
  have hho:Holds X m (w.alloc (.cells cells' li.elem)) le.size (.slice (some ⟨w.heap.size,0,none⟩) len len) es:=by
   refine ⟨some ⟨w.heap.size,0,none⟩,len,by rw [hel'],by omega,fun e he=>?_,.inr ⟨w.heap.size,0,cells'.toList.take (es.length * le.size),rfl,by simp [hel']; omega,fun j v hj=>?_,fun v hv=>?_,fun j e l c he hc=>?_⟩⟩
   ·obtain ⟨j,hj⟩:=List.getElem?_of_mem he
    exact (hes j e hj).1
   ·rw [cell_of_row _ w.heap.size _ cells' li.elem _ (heap_alloc_new _ _)]
    rw [List.getElem?_take] at hj
    split at hj
    ·simpa using hj
    ·cases hj
   ·obtain ⟨p,hp⟩:=List.getElem?_of_mem hv
    rw [List.getElem?_take] at hp
    split at hp
    ·rename_i hpl
     rcases Nat.eq_zero_or_pos le.size with h0 | h0
     ·rw [h0] at hpl; omega
     ·have hj:p / le.size < es.length:=by rw [Nat.div_lt_iff_lt_mul h0]; exact hpl
      have hm:p % le.size < le.size:=Nat.mod_lt _ h0
      obtain ⟨a,b⟩:=hes (p / le.size) es[p / le.size] (List.getElem?_eq_getElem hj)
      obtain ⟨u,hu,hC⟩:=b (p % le.size) _ (List.getElem?_eq_getElem (by rw [a]; exact hm))
      rw [Nat.zero_add,Nat.mul_comm,Nat.div_add_mod] at hu
      have hp':cells'[p]?=some v:=by simpa using hp
      rw [hp'] at hu
      cases hu
      exact hC.2
    ·cases hp
   ·obtain ⟨a,b⟩:=hes j e he
    obtain ⟨v,hv,hC⟩:=b l c hc
    refine ⟨v,?_,hC.ext hx⟩
    have hjl:=(List.getElem?_eq_some_iff.1 he).1
    have hll:l < le.size:=by rw [← a]; exact (List.getElem?_eq_some_iff.1 hc).1
    have:j * le.size+l < es.length * le.size:=by
     have h1:=Nat.mul_le_mul_right le.size (Nat.succ_le_of_lt hjl)
     rw [Nat.succ_mul] at h1; omega
    rw [List.getElem?_take,if_pos this]
    simpa using hv
  obtain ⟨m',H',ds,hh2,hx2,hd,hk'⟩:=hho.frz hh' hk
  refine ⟨_,_,m',.d (.ls ds),H',hrun,.d _ _ (Rd.of_holds hd ?_),hh2,hx.trans hx2,hk'⟩
  intro b o n c hv
  simp only [Value.slice.injEq,Option.some.injEq,Addr.mk.injEq] at hv
  obtain ⟨⟨rfl,_,_⟩,_,_⟩:=hv
  have hnm:ME.blk w.heap.size ∉ m:=fun hmem=>by
   obtain ⟨κ,hκ⟩:=get_of_mem hmem
   exact Nat.lt_irrefl _ (hh.lt κ _ hκ).1
  refine ⟨Nat.lt_of_lt_of_le (by simp) hx2.size,fun hX=>Nat.lt_irrefl _ (hh.old _ hX),(hx2.keep _ (by simp) hnm).2⟩
@[irreducible] def frP (xs:List AV) (H:Hp) (k:List AV→Hp→Prop):Prop:=k xs H∨mapK (frz 6) xs H fun ds H'=>k (ds.map .d) H'
theorem frP_no {xs:List AV} {H:Hp} {k:List AV→Hp→Prop} (h:k xs H):frP xs H k:=by unfold frP; exact .inl h
@[irreducible] def apS (q bytes len:Nat) (xs:List AV) (k:Prop):Prop:=(∀ e,e ∈ xs→e.cells.length=q)∧(len+xs.length) * bytes≤140737488355328∧len+xs.length < 9223372036854775808∧k
theorem apS_mk {q bytes len:Nat} {xs:List AV} {k:Prop} (h1:∀ e,e ∈ xs→e.cells.length=q) (h2:(len+xs.length) * bytes≤140737488355328) (h3:len+xs.length < 9223372036854775808) (hk:k):apS q bytes len xs k:=by
 unfold apS; exact ⟨h1,h2,h3,hk⟩
@[irreducible] def eqS (a b:Nat) (k:Prop):Prop:=a=b∧k
theorem eqS_mk {a b:Nat} {k:Prop} (h:a=b) (hk:k):eqS a b k:=by unfold eqS; exact ⟨h,hk⟩
def apT (le:LI) (s:AV) (k:AV→Hp→Prop) (xs:List AV) (H:Hp):Prop :=
 match s with
 | .nsl=>apS le.size le.bytes 0 xs (reS xs xs.length fun es' n'=>pushK H (.arr le.size es') fun p H'=>k (.sl p le.size 0 n') H')
 | .sl κ q off n=>bif Nat.beq off 0 && Nat.beq q le.size then nthK H κ fun B=>match B with
   | some (.arr q' es)=>bif Nat.beq q' q then eqS n es.length (apS le.size le.bytes n xs (setK H κ none fun H1=>reS (es++xs) (n+xs.length) fun es' n'=>pushK H1 (.arr le.size es') fun p H'=>k (.sl p le.size 0 n') H')) else False
   | _=>False
  else False
 | _=>False
def apP (le:LI) (s x:AV) (H:Hp) (k:AV→Hp→Prop):Prop :=
 bif Nat.beq le.zero.length le.size then exK le.size x H fun xs=>frP xs H (apT le s k) else False
/-- The block of an append's result: new,or the old one,written on. -/
structure ApOut (P:Program) (X:Nat→Prop) (m:Mp) (H:Hp) (w:World) (q:Nat) (es:List AV) (v:Value) (w':World) (m':Mp):Prop where
 val:V X m' w' v (.sl H.length q 0 es.length)
 heap:HRel X m' (H++[some (.arr q es)]) w'
 ext:Ext X m w m' w'
theorem Src.of_Holds {t e':TypeId} {q:Nat} {v:Value} {xs:List AV} (hu:P.underlying t=some (.slice e')) (hv:Holds X m w q v xs):∃ news,Src P q t v xs.length news w∧news.length=xs.length * q ∧
  ∀ (j:Nat) e (l:Nat) c,xs[j]?=some e→e.cells[l]?=some c→∃ v,news[j * q+l]?=some v∧C X m w v c:=by
 obtain ⟨base,cap,rfl,hcap,hall,hb⟩:=hv
 rcases hb with ⟨rfl,rfl⟩ | ⟨b,o,news,rfl,hlen,hcell,hone,hnews⟩
 ·cases base with
  | none=>exact ⟨[],Src.ofNil w hu 0,by simp,fun j e l c he=>by simp at he⟩
  | some a=>exact ⟨[],Src.ofSlice w hu a 0 0 [] (by simp) (fun j u hu=>by simp at hu) (fun u hu=>by simp at hu),by simp,fun j e l c he=>by simp at he⟩
 ·exact ⟨news,Src.ofSlice w hu ⟨b,o,none⟩ xs.length cap news hlen (fun j u hu=>by rw [add_addr]; exact hcell j u hu) hone,hlen,hnews⟩
theorem ap_new {te:TypeId} {q:Nat} {es:List AV} {cells:Array Value} {n cap:Nat} (hh:HRel X m H w) (hq:∀ e,e ∈ es→e.cells.length=q) (_:n=es.length) (hcap:n≤cap) (hsz:cap * q≤cells.size)
  (hcell:∀ (j:Nat) e (l:Nat) c,es[j]?=some e→e.cells[l]?=some c→∃ v,cells[j * q+l]?=some v∧C X m w v c) :
  ∃ m',V X m' (w.alloc (.cells cells te)) (.slice (some ⟨w.heap.size,0,none⟩) n cap) (.sl H.length q 0 n)∧HRel X m' (H++[some (.arr q es)]) (w.alloc (.cells cells te))∧Ext X m w m' (w.alloc (.cells cells te)):=by
 refine ⟨m++[.blk w.heap.size],?_,hh.alloc (B:=.arr q es) ⟨hq,hcell⟩,Ext.alloc _ hh⟩
 refine .sl _ _ _ _ _ (by simp [hh.len]) rfl (fun b hb=>?_) (fun hb=>by rw [← hh.len] at hb; simp at hb)
 rw [← hh.len] at hb
 simp at hb
 subst hb
 exact ⟨cap,by simp,hcap,cells,te,(0,0),heap_alloc_new _ _,by simpa using hsz⟩
theorem Ext.moved {κ b:Nat} {vs vs':Array Value} {el:TypeId} (hb:m[κ]?=some (.blk b)) (hg:w.heap[b]?=some (.cells vs el (0,0))) (hs:vs'.size=vs.size):Ext X m w (m.set κ .dead++[.blk b]) (w.setRow b vs') where
 out:=⟨rfl,rfl,rfl⟩
 keep b' hb' hm:=by
  have hne:b'≠b:=fun e=>hm (by subst e; exact mem_of_get hb)
  refine ⟨setRow_other w b b' vs' hne,fun hmem=>?_⟩
  rcases List.mem_append.1 hmem with h1 | h1
  ·exact ((Ext.kill (X:=X) (w:=w) κ).keep b' hb' hm).2 h1
  ·simp at h1; exact hne h1
 size:=by simp
 len:=by simp
 same κ' e hκ' h:=by
  rw [List.getElem?_append_left (by simpa using hκ')] at h
  exact (Ext.kill (X:=X) (w:=w) κ).same κ' e hκ' h
 room b' n hr:=(Ext.setRow (X:=X) hb hg hs).room b' n hr
theorem HRel.moved {κ b:Nat} {vs vs':Array Value} {el:TypeId} {B':Blk} (h:HRel X m H w) (hb:m[κ]?=some (.blk b)) (hg:w.heap[b]?=some (.cells vs el (0,0))) (hs:vs'.size=vs.size)
  (hB:BRel X m w vs' B'):HRel X (m.set κ .dead++[.blk b]) (H.set κ none++[some B']) (w.setRow b vs'):=by
 have hx:Ext X m w (m.set κ .dead++[.blk b]) (w.setRow b vs'):=Ext.moved hb hg hs
 have sub:∀ (κ' b':Nat),(m.set κ .dead)[κ']?=some (.blk b')→κ'≠κ∧m[κ']?=some (.blk b'):=by
  intro κ' b' hb'
  rw [List.getElem?_set] at hb'
  by_cases he:κ=κ'
  ·simp [he] at hb'
  ·exact ⟨fun e=>he e.symm,by simpa [he] using hb'⟩
 have key:∀ (κ' b':Nat),(m.set κ .dead++[.blk b])[κ']?=some (.blk b')→(κ'≠κ∧κ' < m.length∧m[κ']?=some (.blk b'))∨(κ'=m.length∧b'=b):=by
  intro κ' b' hk
  by_cases hlt:κ' < m.length
  ·rw [List.getElem?_append_left (by simpa using hlt)] at hk
   exact .inl ⟨(sub _ _ hk).1,hlt,(sub _ _ hk).2⟩
  ·have:=(List.getElem?_eq_some_iff.1 hk).1
   have:κ'=m.length:=by simp at this; omega
   subst this
   rw [List.getElem?_append_right (by simp)] at hk
   simp at hk
   exact .inr ⟨rfl,hk.symm⟩
 refine ⟨by simp [h.len],fun κ' ds hκ'=>?_,fun a c d h1 h2=>?_,fun κ' b' h1=>?_,fun b' hb'=>by simpa using h.old b' hb',h.tab.ext hx⟩
 ·by_cases hlt:κ' < H.length
  ·rw [List.getElem?_append_left (by simpa using hlt),List.getElem?_set] at hκ'
   by_cases he:κ=κ'
   ·simp [he] at hκ'
   ·simp [he] at hκ'
    rcases h.blk κ' ds hκ' with ⟨b',us,el',h1,h2,h3⟩ | ⟨h0,h1⟩ | ⟨E,b',es,ck,e1,e2,e3,e4⟩
    ·refine .inl ⟨b',us,el',?_,?_,h3.ext hx⟩
     ·rw [List.getElem?_append_left (by simp [h.len]; exact hlt),List.getElem?_set]; simpa [he] using h1
     ·rw [setRow_other _ _ _ _ (fun e=>he (by subst e; exact h.inj _ _ _ hb h1))]; exact h2
    ·refine .inr (.inl ⟨?_,h1⟩)
     rw [List.getElem?_append_left (by simp [h.len]; exact hlt),List.getElem?_set]; simpa [he] using h0
    ·refine .inr (.inr ⟨E,b',es,ck,e1,?_,?_,e4.ext hx⟩)
     ·rw [List.getElem?_append_left (by simp [h.len]; exact hlt),List.getElem?_set]; simpa [he] using e2
     ·rw [setRow_other _ _ _ _ (fun e=>he (by subst e; exact h.inj _ _ _ hb e2))]; exact e3
  ·have:=(List.getElem?_eq_some_iff.1 hκ').1
   have hk2:κ'=H.length:=by simp at this; omega
   subst hk2
   rw [List.getElem?_append_right (by simp)] at hκ'
   simp at hκ'
   subst hκ'
   refine .inl ⟨b,vs',el,?_,setRow_heap w b vs vs' el _ hg,hB.ext hx⟩
   rw [List.getElem?_append_right (by simp [h.len])]
   simp [h.len]
 ·rcases key _ _ h1 with ⟨n1,l1,a1⟩ | ⟨a1,b1⟩ <;> rcases key _ _ h2 with ⟨n2,l2,a2⟩ | ⟨a2,b2⟩
  ·exact h.inj _ _ _ a1 a2
  ·subst b2; exact absurd (h.inj _ _ _ a1 hb) n1
  ·subst b1; exact absurd (h.inj _ _ _ a2 hb) n2
  ·omega
 ·rcases key _ _ h1 with ⟨_,_,a1⟩ | ⟨_,b1⟩
  ·simpa using h.lt _ _ a1
  ·subst b1; simpa using h.lt _ _ hb
theorem run_append_room_row {t tx ty e:TypeId} {i:TypeInfo} (ht:P.underlying t=some (.slice e)) (hi:P.info? e=some i) {b sLen sCap:Nat} {x:Value} {n:Nat} {news:List Value} (hs:Src P i.size tx x n news w)
  (hroom:sLen+n≤sCap) {cur:Array Value} {el:TypeId} (hg:w.heap[b]?=some (.cells cur el (0,0))) (hfit:sLen * i.size+news.length≤cur.size) :
  (Builtin.append_ #[t,tx] ty #[.slice (some ⟨b,0,none⟩) sLen sCap,x]).run P w=.ok (.slice (some ⟨b,0,none⟩) (sLen+n) sCap)
   (w.setRow b (cur.toList.take (sLen * i.size)++news++cur.toList.drop (sLen * i.size+news.length)).toArray):=by
 have hst:=run_storeCells_at P b (sLen * i.size) el news 0 cur w hg (by simpa using hfit) hs.one
 simp only [Nat.add_zero] at hst
 have hadd:(⟨b,0,none⟩:Addr).add (sLen * i.size)=⟨b,sLen * i.size,none⟩:=by rw [add_addr]; simp
 rcases hs.kind with ⟨e',hk⟩ | hk <;> simp [Builtin.append_,run_underlying ht,run_underlying hk,sizeOf,typeInfo,hi,hs.len,hroom,hs.cells,hadd,hst]
theorem le_grownCap (w:World) (need old:Nat) (e:TypeId):need≤grownCap w need old e:=by
 simp only [grownCap,Question.cut]
 omega
theorem size_zeroCells (z:Array Value) (n:Nat):(Builtin.zeroCells z n).size=n * z.size:=by simp [Builtin.zeroCells]
theorem olds_of {κ b q n:Nat} {es:List AV} (hh:HRel X m H w) (hB:H[κ]?=some (some (.arr q es))) (hb:m[κ]?=some (.blk b)) (hn:n=es.length) :
  ∃ olds:List Value,olds.length=n * q∧(∀ (j:Nat) v,olds[j]?=some v→w.cell? ⟨b,0+j,none⟩=some v) ∧
   ∀ (j:Nat) e (l:Nat) c,es[j]?=some e→e.cells[l]?=some c→∃ v,olds[j * q+l]?=some v∧C X m w v c:=by
 obtain ⟨vs,el,hg,hR⟩:=hh.get hb hB
 obtain ⟨news,a1,a2,a3,a4⟩:=news_of (X:=X) (m:=m) (w:=w) (xs:=es) (q:=q) (b:=b) (o:=0) hR.1 (fun j e l c he hc=>by
  obtain ⟨u,hu,hC⟩:=hR.2 j e l c he hc
  refine ⟨u,?_,hC⟩
  rw [cell_of_row w b _ vs el _ hg,Nat.zero_add]
  exact hu)
 exact ⟨news,by rw [a1,hn],a2,a4⟩
theorem get_appended {q:Nat} {es xs:List AV} {olds news:List Value} {rest:Array Value} (ho:olds.length=es.length * q) (hnl:news.length=xs.length * q) (hx:∀ e,e ∈ xs→e.cells.length=q) (he:∀ e,e ∈ es→e.cells.length=q)
  (h1:∀ (j:Nat) e (l:Nat) c,es[j]?=some e→e.cells[l]?=some c→∃ v,olds[j * q+l]?=some v∧C X m w v c)
  (h2:∀ (j:Nat) e (l:Nat) c,xs[j]?=some e→e.cells[l]?=some c→∃ v,news[j * q+l]?=some v∧C X m w v c) :
  ∀ (j:Nat) e (l:Nat) c,(es++xs)[j]?=some e→e.cells[l]?=some c→∃ v,((olds++news).toArray++rest)[j * q+l]?=some v∧C X m w v c:=by
 intro j e l c hj hc
 have bound:∀ a n:Nat,a < n→l < q→a * q+l < n * q:=by
  intro a n ha hl
  have:=Nat.mul_le_mul_right q (Nat.succ_le_of_lt ha)
  rw [Nat.succ_mul] at this
  omega
 by_cases hlt:j < es.length
 ·rw [List.getElem?_append_left hlt] at hj
  obtain ⟨v,e1,hC⟩:=h1 j e l c hj hc
  have hll:l < q:=by rw [← he e (List.mem_of_getElem? hj)]; exact (List.getElem?_eq_some_iff.1 hc).1
  have:=bound j es.length hlt hll
  refine ⟨v,?_,hC⟩
  rw [Array.getElem?_append_left (by simp; omega),List.getElem?_toArray,List.getElem?_append_left (by omega)]
  exact e1
 ·rw [List.getElem?_append_right (by omega)] at hj
  obtain ⟨v,e1,hC⟩:=h2 (j - es.length) e l c hj hc
  have hll:l < q:=by rw [← hx e (List.mem_of_getElem? hj)]; exact (List.getElem?_eq_some_iff.1 hc).1
  have hjx:j - es.length < xs.length:=(List.getElem?_eq_some_iff.1 hj).1
  have h3:=bound _ _ hjx hll
  have h4:j * q+l=es.length * q+((j - es.length) * q+l):=by
   rw [Nat.sub_mul]
   have:=Nat.mul_le_mul_right q (Nat.le_of_not_lt hlt)
   omega
  refine ⟨v,?_,hC⟩
  rw [h4,Array.getElem?_append_left (by simp; omega),List.getElem?_toArray,List.getElem?_append_right (by omega),ho]
  have h5:es.length * q+((j - es.length) * q+l) - es.length * q=(j - es.length) * q+l:=by omega
  rw [h5]; exact e1
theorem apT_ok {t tx ty:TypeId} {li le:LI} {i ie:TypeInfo} {ue:TypeDesc} {z ze:Value} {ex:TypeId} (hl:LIs P t li i (.slice li.elem) z) (hle:LIs P li.elem le ie ue ze) (htx:P.underlying tx=some (.slice ex))
  (hz:le.zero.length=le.size) {s:AV} {vs vx:Value} {k:AV→Hp→Prop} {xs:List AV} {m1:Mp} {H1:Hp} (hs1:V X m1 w vs s) (hh1:HRel X m1 H1 w) (hx1:Ext X m w m1 w)
  (hold:(∀ e,e ∈ xs→e.cells.length=le.size)→Holds X m1 w le.size vx xs) (h:apT le s k xs H1):VOK P X m w (Builtin.append_ #[t,tx] ty #[vs,vx]) k:=by
 have hsz:=hle.size
 have hby:=hle.bytes
 have hzs:ze.cells.size=le.size:=by
  have:=congrArg List.length hle.zer
  simp at this
  omega
 -- out of a nil slice
 have fromNil:∀ (m2:Mp) (H2:Hp),HRel X m2 H2 w→Ext X m1 w m2 w→vs=.slice none 0 0→(∀ e,e ∈ xs→e.cells.length=le.size)→(0+xs.length) * le.bytes≤140737488355328→0+xs.length < 9223372036854775808 →
   k (.sl H2.length le.size 0 (0+xs.length)) (H2++[some (.arr le.size xs)])→VOK P X m w (Builtin.append_ #[t,tx] ty #[vs,vx]) k:=by
  intro m2 H2 hh2 hx2 hvs hall hb63 h63 hk
  subst hvs
  obtain ⟨news,hsrc,hnl,hnews⟩:=Src.of_Holds htx (hold hall)
  rw [hsz] at hsrc
  rcases Nat.eq_zero_or_pos xs.length with h0 | h0
  ·have hx0:xs=[]:=List.eq_nil_of_length_eq_zero h0
   subst hx0
   have hn0:news=[]:=List.eq_nil_of_length_eq_zero (by simpa using hnl)
   subst hn0
   refine ⟨.slice none 0 0,w,m2++[.nil],.sl H2.length le.size 0 0,_,run_append_nothing w t tx ty _ ie hl.und hle.info none 0 0 (Nat.le_refl _) vx hsrc,?_,?_,?_,hk⟩
   ·refine .sl _ _ _ _ _ (by simp [hh2.len]) rfl (fun b hb=>by rw [← hh2.len] at hb; simp at hb) (fun _=>⟨rfl,rfl⟩)
   ·have hx3:Ext X m2 w (m2++[.nil]) w:=⟨fun b hb hm=>⟨rfl,fun hmem=>by rcases List.mem_append.1 hmem with h1 | h1; exact hm h1; simp at h1⟩,Nat.le_refl _,by simp,fun κ e hκ h=>by rw [List.getElem?_append_left hκ] at h; exact .inr h,fun _ _ h=>h,rfl,rfl,rfl⟩
    have key:∀ (κ b:Nat),(m2++[ME.nil])[κ]?=some (.blk b)→m2[κ]?=some (.blk b):=by
     intro κ b hk
     by_cases hlt:κ < m2.length
     ·rwa [List.getElem?_append_left hlt] at hk
     ·rw [List.getElem?_append_right (by omega)] at hk
      cases hq:κ - m2.length <;> simp [hq] at hk
    refine ⟨by simp [hh2.len],fun κ B hκ=>?_,fun a b c h1 h2=>hh2.inj a b c (key _ _ h1) (key _ _ h2),fun κ b h1=>hh2.lt κ b (key _ _ h1),hh2.old,hh2.tab.ext hx3⟩
    by_cases hlt:κ < H2.length
    ·rw [List.getElem?_append_left hlt] at hκ
     rcases hh2.blk κ B hκ with ⟨b,us,el,h1,h2,h3⟩ | ⟨h1,h2⟩ | ⟨E,b',es,ck,e1,e2,e3,e4⟩
     ·exact .inl ⟨b,us,el,by rw [List.getElem?_append_left (by rw [hh2.len]; exact hlt)]; exact h1,h2,h3.ext hx3⟩
     ·exact .inr (.inl ⟨by rw [List.getElem?_append_left (by rw [hh2.len]; exact hlt)]; exact h1,h2⟩)
     ·exact .inr (.inr ⟨E,b',es,ck,e1,by rw [List.getElem?_append_left (by rw [hh2.len]; exact hlt)]; exact e2,e3,e4.ext hx3⟩)
    ·have:=(List.getElem?_eq_some_iff.1 hκ).1
     have hk2:κ=H2.length:=by simp at this; omega
     subst hk2
     simp at hκ
     subst hκ
     exact .inr (.inl ⟨by rw [← hh2.len]; simp,le.size,rfl⟩)
   ·exact hx1.trans (hx2.trans ⟨fun b hb hm=>⟨rfl,fun hmem=>by rcases List.mem_append.1 hmem with h1 | h1; exact hm h1; simp at h1⟩,Nat.le_refl _,by simp,fun κ e hκ h=>by rw [List.getElem?_append_left hκ] at h; exact .inr h,fun _ _ h=>h,rfl,rfl,rfl⟩)
  ·have hrun:=run_append_grow_src (P:=P) w t tx ty _ ie ze hl.und hle.info hle.zero none 0 0 [] (by simpa using run_firstCells_none w.drew ie.size 0 0 0) vx xs.length news hsrc (by omega) (by omega)
    (growslice_fits (by omega) (by rw [← hby]; exact hb63))
   have hcapge:=le_grownCap w (0+xs.length) 0 li.elem
   have hnews2:∀ (j:Nat) e (l:Nat) c,xs[j]?=some e→e.cells[l]?=some c→∃ v,news[j * le.size+l]?=some v∧C X m2 w v c:=fun j e l c he hc=>by
    obtain ⟨v,e1,hC⟩:=hnews j e l c he hc
    exact ⟨v,e1,hC.ext hx2⟩
   have hdrew:Ext X m2 w m2 w.drew:=Ext.of_heap rfl
   obtain ⟨m3,hV,hh3,hx3⟩:=ap_new (te:=li.elem) (q:=le.size) (es:=xs) (cells:=([]++news).toArray++Builtin.zeroCells ze.cells (grownCap w (0+xs.length) 0 li.elem - (0+xs.length))) (n:=0+xs.length) (cap:=grownCap w (0+xs.length) 0 li.elem)
    (hh2.of_heap (w':=w.drew) rfl) hall (by simp) hcapge (by
     simp only [List.nil_append,Array.size_append,List.size_toArray,hnl,size_zeroCells,hzs]
     rw [← Nat.add_mul]
     exact Nat.mul_le_mul_right _ (by omega)) (fun j e l c he hc=>by
     obtain ⟨v,e1,hC⟩:=get_appended (X:=X) (m:=m2) (w:=w) (es:=[]) (olds:=[]) (rest:=Builtin.zeroCells ze.cells (grownCap w (0+xs.length) 0 li.elem - (0+xs.length))) (by simp) hnl hall (by simp) (by simp) hnews2 j e l c (by simpa using he) hc
     exact ⟨v,e1,hC.ext hdrew⟩)
   exact ⟨_,_,m3,_,_,hrun,hV,hh3,hx1.trans (hx2.trans (hdrew.trans hx3)),hk⟩
 cases hs1 with
 | nsl =>
  dsimp only [apT] at h
  simp only [reS_iff] at h
  unfold apS at h
  obtain ⟨hall,h47,h63,h⟩:=h
  exact fromNil m1 H1 hh1 (.refl _ _ _) rfl hall h47 h63 (by simpa using pushK_ok h)
 | sl _ κ q off n hκ h1 hb0 hn0 =>
  dsimp only [apT] at h
  simp only [reS_iff] at h
  cases hc:Nat.beq off 0 && Nat.beq q le.size with
  | false=>rw [hc] at h; exact h.elim
  | true =>
  rw [hc] at h
  simp only [Bool.and_eq_true] at hc
  obtain rfl:=Nat.eq_of_beq_eq_true hc.1
  obtain hqe:=Nat.eq_of_beq_eq_true hc.2
  subst hqe
  replace h:=nthK_ok h
  obtain ⟨B,hB,h⟩:=h
  split at h
  ·rename_i q' es
   cases hq:Nat.beq q' le.size with
   | false=>rw [hq] at h; exact h.elim
   | true =>
   rw [hq] at h
   obtain rfl:=Nat.eq_of_beq_eq_true hq
   simp only [cond_true] at h
   unfold eqS at h
   obtain ⟨hn,h⟩:=h
   unfold apS at h
   obtain ⟨hall,h47,h63,h⟩:=h
   have hk:=pushK_ok (setK_none h)
   rw [List.length_set] at hk
   rcases hh1.blk2 κ _ hB with ⟨b,cur,el,hb,hg,hR⟩ | ⟨hm,q0,hB0⟩
   ·obtain ⟨cap,e,hncap,hroom⟩:=hb0 b hb
    subst e
    obtain ⟨us,el2,fz,hus,hroomle⟩:=hroom
    rw [hg] at hus
    simp only [Option.some.injEq,Obj.cells.injEq] at hus
    obtain ⟨rfl,rfl,rfl⟩:=hus
    simp only [Nat.zero_mul,Nat.zero_add] at hroomle
    obtain ⟨news,hsrc,hnl,hnews⟩:=Src.of_Holds htx (hold hall)
    rw [hsz] at hsrc
    obtain ⟨olds,hol,hoc,holds⟩:=olds_of hh1 hB hb hn
    by_cases hroom:n+xs.length≤cap
    ·have hfit:n * le.size+news.length≤cur.size:=by
      rw [hnl,← Nat.add_mul]
      exact Nat.le_trans (Nat.mul_le_mul_right _ hroom) hroomle
     have hrun:=run_append_room_row (ty:=ty) hl.und hle.info (b:=b) (sLen:=n) (sCap:=cap) hsrc hroom hg (by rw [← hsz]; exact hfit)
     rw [← hsz] at hrun
     have hss:(cur.toList.take (n * le.size)++news++cur.toList.drop (n * le.size+news.length)).toArray.size=cur.size:=by simp; omega
     refine ⟨_,_,m1.set κ .dead++[.blk b],_,_,by simpa using hrun,?_,hh1.moved hb hg hss (B':=.arr le.size (es++xs)) ⟨fun e he=>?_,fun j e l c hj hc=>?_⟩,hx1.trans (Ext.moved hb hg hss),hk⟩
     ·refine .sl _ _ _ _ _ (by simp [hh1.len]) rfl (fun b' hb'=>?_) (fun hb'=>?_)
      ·rw [List.getElem?_append_right (by simp [hh1.len])] at hb'
       simp [hh1.len] at hb'
       subst hb'
       exact ⟨cap,by simp,hroom,_,el,(0,0),setRow_heap w b cur _ el _ hg,by rw [hss]; simpa using hroomle⟩
      ·rw [List.getElem?_append_right (by simp [hh1.len])] at hb'
       simp [hh1.len] at hb'
     ·rcases List.mem_append.1 he with he | he
      ·exact hR.1 e he
      ·exact hall e he
     ·rw [List.getElem?_toArray,getElem?_over cur.toList news (n * le.size) (j * le.size+l) (by simpa using hfit)]
      have bound:∀ a n':Nat,a < n'→l < le.size→a * le.size+l < n' * le.size:=by
       intro a n' ha hl
       have:=Nat.mul_le_mul_right le.size (Nat.succ_le_of_lt ha)
       rw [Nat.succ_mul] at this
       omega
      by_cases hlt:j < es.length
      ·rw [List.getElem?_append_left hlt] at hj
       have hll:l < le.size:=by rw [← hR.1 e (List.mem_of_getElem? hj)]; exact (List.getElem?_eq_some_iff.1 hc).1
       rw [if_pos (by rw [hn]; exact bound j es.length hlt hll)]
       simpa using hR.2 j e l c hj hc
      ·rw [List.getElem?_append_right (by omega)] at hj
       have hll:l < le.size:=by rw [← hall e (List.mem_of_getElem? hj)]; exact (List.getElem?_eq_some_iff.1 hc).1
       have hjx:j - es.length < xs.length:=(List.getElem?_eq_some_iff.1 hj).1
       have h3:=bound _ _ hjx hll
       have h4:j * le.size+l=n * le.size+((j - es.length) * le.size+l):=by
        rw [Nat.sub_mul,hn]
        have:=Nat.mul_le_mul_right le.size (Nat.le_of_not_lt hlt)
        omega
       rw [if_neg (by omega),if_pos (by rw [hnl]; omega)]
       have h5:j * le.size+l - n * le.size=(j - es.length) * le.size+l:=by omega
       rw [h5]
       exact hnews (j - es.length) e l c hj hc
    ·have hkx:Ext X m1 w (m1.set κ .dead) w:=Ext.kill κ
     have hho:(Builtin.firstCells ie.size n (.slice (some ⟨b,0,none⟩) n cap)).run P w.drew=.ok olds.toArray w.drew :=
      run_firstCells_some (P:=P) w.drew ie.size n ⟨b,0,none⟩ n cap olds (by rw [hol,hsz]) (fun j v hj=>by rw [add_addr]; simpa using hoc j v hj)
     have hrun:=run_append_grow_src (P:=P) w t tx ty _ ie ze hl.und hle.info hle.zero (some ⟨b,0,none⟩) n cap olds hho vx xs.length news hsrc (by omega) (by omega)
      (growslice_fits (by omega) (by rw [← hby]; exact h47))
     have hcapge:=le_grownCap w (n+xs.length) cap li.elem
     have hdrew:Ext X (m1.set κ .dead) w (m1.set κ .dead) w.drew:=Ext.of_heap rfl
     obtain ⟨m3,hV,hh3,hx3⟩:=ap_new (te:=li.elem) (q:=le.size) (es:=es++xs) (cells:=(olds++news).toArray++Builtin.zeroCells ze.cells (grownCap w (n+xs.length) cap li.elem - (n+xs.length))) (n:=n+xs.length) (cap:=grownCap w (n+xs.length) cap li.elem)
      ((hh1.kill κ).of_heap (w':=w.drew) rfl) (fun e he=>by rcases List.mem_append.1 he with he | he; exact hR.1 e he; exact hall e he) (by simp [hn]) hcapge (by
       simp only [Array.size_append,List.size_toArray,List.length_append,hol,hnl,size_zeroCells,hzs]
       rw [← Nat.add_mul,← Nat.add_mul]
       exact Nat.mul_le_mul_right _ (by omega)) (fun j e l c he hc=>by
       obtain ⟨v,e1,hC⟩:=get_appended (X:=X) (m:=m1) (w:=w) (rest:=Builtin.zeroCells ze.cells (grownCap w (n+xs.length) cap li.elem - (n+xs.length))) (by rw [hol,hn]) hnl hall hR.1 holds hnews j e l c he hc
       exact ⟨v,e1,(hC.ext hkx).ext hdrew⟩)
     rw [List.length_set] at hV
     refine ⟨_,_,m3,_,_,by simpa using hrun,hV,hh3,hx1.trans (hkx.trans (hdrew.trans hx3)),hk⟩
   ·obtain ⟨e,h0⟩:=hn0 hm
    subst h0
    have he0:es=[]:=List.eq_nil_of_length_eq_zero hn.symm
    subst he0
    exact fromNil _ _ (hh1.kill κ) (Ext.kill κ) e hall h47 h63 (by simpa [List.length_set] using hk)
  ·exact h.elim
 | _=>exact h.elim
theorem ap_ok {t tx ty:TypeId} {li le:LI} {i ie:TypeInfo} {u ue:TypeDesc} {z ze:Value} {ex:TypeId} (hl:LIs P t li i u z) (hsl:li.sl=true) (hle:LIs P li.elem le ie ue ze) (htx:P.underlying tx=some (.slice ex))
  {s x:AV} {vs vx:Value} {k:AV→Hp→Prop} (hs:V X m w vs s) (hx:V X m w vx x) (hh:HRel X m H w) (h:apP le s x H k):VOK P X m w (Builtin.append_ #[t,tx] ty #[vs,vx]) k:=by
 have hu:=hl.slice hsl
 subst hu
 unfold apP at h
 cases hz:Nat.beq le.zero.length le.size with
 | false=>rw [hz] at h; exact h.elim
 | true =>
 rw [hz] at h
 have hz:=Nat.eq_of_beq_eq_true hz
 simp only [cond_true] at h
 replace h:=ex_ok hx hh h
 obtain ⟨xs,hxs,h⟩:=h
 unfold frP at h
 rcases h with h | h
 ·exact apT_ok hl hle htx hz hs hh (.refl _ _ _) (fun hall=>by
   rcases hxs with ⟨ds,_,rfl,hf⟩ | hf
   ·exact hf hall
   ·exact hf) h
 ·rcases hxs with ⟨ds,rfl,rfl,hf⟩ | hf
  ·have key:∀ (ds:List D) (H:Hp) (kk:List D→Hp→Prop),mapK (Abs.frz 6) (ds.map .d) H kk→kk ds H:=by
    intro ds
    induction ds with
    | nil=>exact fun _ _ h=>h
    | cons d ds ih=>exact fun H kk h=>ih H _ h
   exact apT_ok hl hle htx hz hs hh (.refl _ _ _) hf (key _ _ _ h)
  ·obtain ⟨m1,H1,ds,hh1,hx1,hds,hk⟩:=hf.frz hh h
   exact apT_ok hl hle htx hz (hs.ext hx1) hh1 hx1 (fun _=>hds) hk
/- append(nil,make([]T,n)...): the model's word for it: a number in the second slice's place. -/
@[irreducible] def azS (n:Int) (bytes:Nat) (k:Nat→Prop):Prop:=∃ j:Nat,n=(j:Int)∧0 < j∧j * bytes≤140737488355328∧j < 9223372036854775808∧k j
theorem azS_mk {n:Int} {bytes:Nat} {k:Nat→Prop} (j:Nat) (h1:n=(j:Int)) (h2:0 < j) (h3:j * bytes≤140737488355328) (h4:j < 9223372036854775808) (hk:k j):azS n bytes k:=by
 unfold azS; exact ⟨j,h1,h2,h3,h4,hk⟩
def apZ (le:LI) (s x:AV) (H:Hp) (k:AV→Hp→Prop):Prop :=
 match s,x with
 | .nsl,.d (.i _ n)=>bif le.zero.all AV.plain && Nat.beq le.zero.length le.size && Nat.blt 0 le.size then azS n le.bytes fun j=>aggK le.agg le.zero fun ze=>bif Nat.beq ze.cells.length le.size then reS (List.replicate j ze) j fun es' n'=>pushK H (.arr le.size es') fun p H'=>k (.sl p le.size 0 n') H' else False else False
 | _,_=>False
theorem apZ_ok {t tx ty:TypeId} {li le:LI} {i ie:TypeInfo} {u ue:TypeDesc} {z ze:Value} {kn:IntKind} (hl:LIs P t li i u z) (hsl:li.sl=true) (hle:LIs P li.elem le ie ue ze) (htx:P.underlying tx=some (.int kn))
  {s x:AV} {vs vx:Value} {k:AV→Hp→Prop} (hs:V X m w vs s) (hx:V X m w vx x) (hh:HRel X m H w) (h:apZ le s x H k):VOK P X m w (Builtin.append_ #[t,tx] ty #[vs,vx]) k:=by
 have hu:=hl.slice hsl
 subst hu
 cases hs with
 | nsl =>
  cases hx with
  | d _ y hr =>
   cases hr with
   | i kq n =>
    simp only [apZ] at h
    cases hz:le.zero.all AV.plain && Nat.beq le.zero.length le.size && Nat.blt 0 le.size with
    | false=>rw [hz] at h; exact h.elim
    | true =>
    rw [hz] at h
    simp only [Bool.and_eq_true] at hz
    have hzl:=Nat.eq_of_beq_eq_true hz.1.2
    have hpos:0 < le.size:=by simpa [Nat.blt_eq] using hz.2
    simp only [cond_true] at h
    unfold azS at h
    obtain ⟨j,rfl,hj0,hb,hj,h⟩:=h
    have hzr:BRel X m w ze.cells (.var le.zero):=BRel.zero hle.zer hz.1.1
    obtain ⟨e,h,hec⟩:=aggK_cells h hzr
    cases hq:Nat.beq e.cells.length le.size with
    | false=>rw [hq] at h; exact h.elim
    | true =>
    rw [hq] at h
    have hq:=Nat.eq_of_beq_eq_true hq
    simp only [cond_true,reS_iff] at h
    have hsz:le.size=ie.size:=hle.size
    have hby:le.bytes=ie.bytes:=hle.bytes
    have hzs:ze.cells.size=le.size:=by
     have:=congrArg List.length hle.zer
     simp at this
     omega
    have hrun:=Lib.run_append_grow_zeros (P:=P) w t tx ty _ ie ze kq kn hl.und htx hle.info hle.zero none 0 0 [] (by simp [Builtin.firstCells]) j hj0 (by omega) (by omega) (by omega) (by rw [← hby]; omega)
     (growslice_fits (by omega) (by rw [← hby]; simpa using hb))
    have hcapge:=le_grownCap w (0+j) 0 li.elem
    have hdrew:Ext X m w m w.drew:=Ext.of_heap rfl
    obtain ⟨m3,hV,hh3,hx3⟩:=ap_new (te:=li.elem) (q:=le.size) (es:=List.replicate j e) (n:=j) (cap:=grownCap w (0+j) 0 li.elem) (cells:=#[]++Builtin.zeroCells ze.cells j++Builtin.zeroCells ze.cells (grownCap w (0+j) 0 li.elem - (0+j)))
     (hh.of_heap (w':=w.drew) rfl) (fun e' he'=>by rw [List.eq_of_mem_replicate he']; exact hq) (by simp) (by omega) (by
      simp only [Array.size_append,size_zeroCells,hzs]
      simp only [Array.size_empty,Nat.zero_add]
      rw [← Nat.add_mul]
      exact Nat.mul_le_mul_right _ (by omega)) (fun a e' l c he' hc=>by
     rw [List.getElem?_replicate] at he'
     split at he'
     ·rename_i haj
      simp at he'
      subst he'
      rw [hec] at hc
      have hll:l < le.size:=by rw [← hzl]; exact (List.getElem?_eq_some_iff.1 hc).1
      obtain ⟨v,hv,hC⟩:=hzr l c hc
      have hlt:a * le.size+l < j * le.size:=by
       have h1:=Nat.mul_le_mul_right le.size (Nat.succ_le_of_lt haj)
       rw [Nat.succ_mul] at h1
       omega
      refine ⟨v,?_,hC.ext hdrew⟩
      rw [Array.empty_append,Array.getElem?_append_left (by rw [size_zeroCells,hzs]; exact hlt)]
      unfold Builtin.zeroCells
      rw [Array.getElem?_map,Array.getElem?_range,if_pos (by rw [hzs]; exact hlt)]
      have hmod:(a * le.size+l) % ze.cells.size=l:=by rw [hzs,Nat.mul_comm,Nat.mul_add_mod]; exact Nat.mod_eq_of_lt hll
      simp only [Option.map_some,hmod]
      rw [Array.getElem!_eq_getD,Array.getD_eq_getD_getElem?,hv]
      rfl
     ·cases he')
    exact ⟨_,_,m3,_,_,by simpa using hrun,hV,hh3,hdrew.trans hx3,pushK_ok h⟩
   | _=>exact h.elim
  | _=>exact h.elim
 | _=>exact h.elim
/- A store: of data; of what holds references: as it is,or let go first. -/
def stP2 (li:LI) (x v:AV) (H:Hp) (k:Hp→Prop):Prop :=
 match v with
 | .d y=>stP li x (.d y) H k
 | v=>orB (stP li x v H k) (frz 8 v H fun d H1=>stP li x (.d d) H1 k)
theorem st2_ok {t:TypeId} {li:LI} {i:TypeInfo} {u:TypeDesc} {z:Value} (hl:LIs P t li i u z) {x av:AV} {v vx:Value} {k:Hp→Prop} (hx:V X m w vx x) (hv:V X m w v av) (hh:HRel X m H w)
  (h:stP2 li x av H k):∃ w' m' H',(Instr.storeAt t vx v).run P w=.ok () w'∧HRel X m' H' w'∧Ext X m w m' w'∧k H':=by
 have plain:∀ {av:AV} {m1:Mp} {H1:Hp},Ext X m w m1 w→V X m1 w v av→HRel X m1 H1 w→stP li x av H1 k→∃ w' m' H',(Instr.storeAt t vx v).run P w=.ok () w'∧HRel X m' H' w'∧Ext X m w m' w'∧k H':=by
  intro av m1 H1 hx1 hv1 hh1 h1
  obtain ⟨w',H',a,b,c,d⟩:=st_ok hl (hx.ext hx1) hv1 hh1 h1
  exact ⟨w',m1,H',a,b,hx1.trans c,d⟩
 unfold stP2 at h
 split at h
 ·exact plain (.refl _ _ _) hv hh h
 ·unfold orB at h
  rcases h with h | h
  ·exact plain (.refl _ _ _) hv hh h
  ·obtain ⟨m1,H1,d,hh1,hx1,hd,h1⟩:=frz_ok 8 _ H _ m v h hv hh
   exact plain hx1 (.d _ _ hd) hh1 h1
end Go.Abs
