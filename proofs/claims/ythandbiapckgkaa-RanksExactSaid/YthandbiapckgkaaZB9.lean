/- Calls that hand back a slice of a block of its own. No condition. -/
import Derived.Test.YthandbiapckgkaaZB7
namespace Go.Abs
variable {P:Program} {X X':Nat→Prop} {m m':Mp} {H:Hp} {w w':World}
@[irreducible] def NC (P:Program) (f:FuncId) (ds:List D) (k:Nat) (R:List D→Prop):Prop :=
 ECall P f (ds.map .d) [] fun r H'=>∃ κ es,r=.sl κ k 0 es.length∧(nthK H' κ fun B=>B=some (.arr k (es.map .d)))∧R es
theorem NC.ecall {f:FuncId} {ds:List D} {k:Nat} {R:List D→Prop} (h:NC P f ds k R) {κ0 n':Nat} {es':List AV} (hκ0:H.length=κ0) (he:∀ es,R es→es.map .d=es'∧es.length=n') {Q:AV→Hp→Prop} (hq:Q (.sl κ0 k 0 n') (H++[some (.arr k es')])):ECall P f (ds.map .d) H Q:=by
 unfold NC at h
 unfold ECall at h ⊢
 refine ⟨h.1,fun X m vals w hs hv hh=>?_⟩
 let X0:Nat→Prop:=fun b=>X b∨.blk b ∈ m
 have hI0:∀ b,Imm X m w b→Imm X0 [] w b:=fun b h=>⟨h.1,fun hx=>hx.elim h.2.1 h.2.2,by simp⟩
 have hX0:∀ b,X0 b→b < w.heap.size:=fun b hb=>by
  rcases hb with hb | hb
  ·exact hh.old b hb
  ·obtain ⟨κ,hκ⟩:=get_of_mem hb
   exact (hh.lt κ b hκ).1
 refine (h.2 X0 [] vals w hs (fun j v c hvj hc=>?_) ⟨rfl,fun κ B hB=>by simp at hB,fun κ κ' b h1=>by simp at h1,fun κ b h1=>by simp at h1,hX0,⟨fun g cs hg=>let ⟨h1,h2,h3⟩:=hh.tab.get g cs hg; ⟨h1,fun hx=>hx.elim h2 h3,by simp⟩⟩⟩).mono ?_
 ·have hvj':=hv j v c hvj hc
  simp only [List.getElem?_map,Option.map_eq_some_iff] at hc
  obtain ⟨c',_,rfl⟩:=hc
  cases hvj' with
  | d _ _ hr=>exact .d _ _ (hr.mono fun b hb=>⟨hI0 b hb,rfl⟩)
 ·rintro e w' ⟨v,m1,r,H1,rfl,hV,hh1,hx1,κ,es,rfl,hB,hR⟩
  obtain ⟨B,hB,rfl⟩:=nthK_ok hB
  obtain ⟨rfl,rfl⟩:=he es hR
  subst hκ0
  have hκ:κ < m1.length:=by rw [hh1.len]; exact (List.getElem?_eq_some_iff.1 hB).1
  have hmem:m1[κ] ∈ m1:=List.getElem_mem hκ
  have hk1:m1[κ]?=some m1[κ]:=List.getElem?_eq_getElem hκ
  have hkeep:∀ b,b < w.heap.size→w'.heap[b]?=w.heap[b]?∧ME.blk b ∉ m1:=fun b hb=>hx1.keep b hb (by simp)
  have hxm:Ext X m w (m++[m1[κ]]) w':=by
   refine ⟨fun b hb hm=>⟨(hkeep b hb).1,fun hmm=>?_⟩,hx1.size,by simp,fun κ' e hκ' he=>?_,hx1.room,hx1.out⟩
   ·rcases List.mem_append.1 hmm with h1 | h1
    ·exact hm h1
    ·have h2:ME.blk b=m1[κ]:=by simpa using h1
     exact (hkeep b hb).2 (by rw [h2]; exact hmem)
   ·rw [List.getElem?_append_left hκ'] at he; exact .inr he
  have hI1:∀ b,Imm X0 m1 w' b→Imm X (m++[m1[κ]]) w' b:=fun b hb=>by
   refine ⟨hb.1,fun hx=>hb.2.1 (.inl hx),fun hm=>?_⟩
   rcases List.mem_append.1 hm with h1 | h1
   ·exact hb.2.1 (.inr h1)
   ·have h2:ME.blk b=m1[κ]:=by simpa using h1
    exact hb.2.2 (by rw [h2]; exact hmem)
  have hnew:(m++[m1[κ]])[H.length]?=some m1[κ]:=by rw [← hh.len]; simp
  have hget:∀ (j:Nat) b,(m++[m1[κ]])[j]?=some (.blk b)→(j < m.length∧m[j]?=some (.blk b))∨(j=m.length∧m1[κ]?=some (.blk b)):=by
   intro j b hj
   by_cases hlt:j < m.length
   ·rw [List.getElem?_append_left hlt] at hj; exact .inl ⟨hlt,hj⟩
   ·have:=(List.getElem?_eq_some_iff.1 hj).1
    have:j=m.length:=by simp at this; omega
    subst this
    simp at hj
    exact .inr ⟨rfl,by rw [hk1,hj]⟩
  refine ⟨v,m++[m1[κ]],_,_,rfl,?_,⟨by simp [hh.len],fun j B hB'=>?_,fun j j' b h1 h2=>?_,fun j b h1=>?_,fun b hb=>Nat.lt_of_lt_of_le (hh.old b hb) hx1.size,hh.tab.ext hxm⟩,hxm,hq⟩
  ·cases hV with
   | sl _ _ _ _ _ _ g1 g2 g3 =>
    refine .sl _ _ _ _ _ (by simp [hh.len]) g1 (fun b hb=>?_) (fun hb=>?_)
    ·rw [hnew] at hb; exact g2 b (by rw [hk1]; exact hb)
    ·rw [hnew] at hb; exact g3 (by rw [hk1]; exact hb)
  ·by_cases hlt:j < H.length
   ·rw [List.getElem?_append_left hlt] at hB'
    have hjm:j < m.length:=by rw [hh.len]; exact hlt
    rcases hh.blk j B hB' with ⟨b,vs,el,q1,q2,q3⟩ | ⟨q1,q2⟩ | ⟨E,b,es',ck,q0,q1,q2,q3⟩
    ·exact .inl ⟨b,vs,el,by rw [List.getElem?_append_left hjm]; exact q1,(hkeep b (hh.lt j b q1).1).1.trans q2,q3.ext hxm⟩
    ·exact .inr (.inl ⟨by rw [List.getElem?_append_left hjm]; exact q1,q2⟩)
    ·exact .inr (.inr ⟨E,b,es',ck,q0,by rw [List.getElem?_append_left hjm]; exact q1,(hkeep b (hh.lt j b q1).1).1.trans q2,q3.ext hxm⟩)
   ·have hj:j=H.length:=by
     have:=(List.getElem?_eq_some_iff.1 hB').1
     simp at this; omega
    subst hj
    simp at hB'
    subst hB'
    rcases hh1.blk κ _ hB with ⟨b,vs,el,q1,q2,q3⟩ | ⟨q1,q2⟩ | ⟨E,b,es',ck,q0,_⟩
    ·refine .inl ⟨b,vs,el,by rw [hnew,← hk1]; exact q1,q2,?_⟩
     have hb:=BRel.back (ρ:=[]) (m:=m++[m1[κ]]) hI1 (fun κ hκ=>by simp at hκ) (B:=.arr k (es.map .d)) (okL_map 0 es) q3
     rwa [show renB [] (.arr k (es.map .d))=.arr k (es.map .d) from by simp only [renB,renL_map]] at hb
    ·exact .inr (.inl ⟨by rw [hnew,← hk1]; exact q1,q2⟩)
    ·cases q0
  ·rcases hget _ _ h1 with ⟨_,a1⟩ | ⟨a1,b1⟩ <;> rcases hget _ _ h2 with ⟨_,a2⟩ | ⟨a2,b2⟩
   ·exact hh.inj _ _ _ a1 a2
   ·exact absurd (.inr (mem_of_get a1)) (hh1.lt _ _ b2).2
   ·exact absurd (.inr (mem_of_get a2)) (hh1.lt _ _ b1).2
   ·omega
  ·rcases hget _ _ h1 with ⟨_,a1⟩ | ⟨_,b1⟩
   ·obtain ⟨l1,l2⟩:=hh.lt j b a1
    exact ⟨Nat.lt_of_lt_of_le l1 hx1.size,l2⟩
   ·obtain ⟨l1,l2⟩:=hh1.lt κ b b1
    exact ⟨l1,fun hx=>l2 (.inl hx)⟩
def nslA:AV→AV
 | .nsl=>.d (.ls [])
 | x=>x
theorem ECall.nsl {f:FuncId} {args:List AV} {Q:AV→Hp→Prop} (h:ECall P f (args.map nslA) H Q):ECall P f args H Q:=by
 unfold ECall at h ⊢
 refine ⟨h.1,fun X m vals w hs hv hh=>h.2 X m vals w (by simpa using hs) (fun j v c hvj hc=>?_) hh⟩
 simp only [List.getElem?_map,Option.map_eq_some_iff] at hc
 obtain ⟨c0,hc0,rfl⟩:=hc
 have h1:=hv j v c0 hvj hc0
 unfold nslA
 split
 ·cases h1; exact .d _ _ .nil
 ·exact h1
end Go.Abs
