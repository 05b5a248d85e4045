/- Regions that draw: one order, ways parted at the guards. No condition. -/
import Derived.Test.YthandbiapckgkaaZB1
namespace Go.Abs
variable {P:Program} {X:Nat→Prop} {m m':Mp} {H:Hp} {w w':World}
theorem sameT.know {T:Tp} {d:Nat} {x:AV} (h:getT T d=x):sameT T ((d,x)::T):=fun t=>by
 simp only [getT]
 by_cases e:d=t
 ·subst e; simp [h]
 ·have hb:Nat.beq d t=false:=by
   cases hq:Nat.beq d t with
   | false=>rfl
   | true=>exact absurd (Nat.eq_of_beq_eq_true hq) e
  simp [hb]
theorem guardK_gst {ops:Array Oper} {g:Option (Nat × Bool)} {T:Tp} {yes no:Tp→Prop} (h:guardK ops.toList g T yes no) :
  (∃ T',sameT T T'∧gst ops g T=some true∧yes T')∨(∃ T',sameT T T'∧gst ops g T=some false∧no T'):=by
 unfold guardK at h
 unfold gst
 cases g with
 | none=>exact .inl ⟨T,.refl T,rfl,h⟩
 | some g =>
  obtain ⟨j,want⟩:=g
  replace h:=nthK_ok h
  obtain ⟨oj,hoj,h⟩:=h
  rw [Array.getElem?_toList] at hoj
  simp only [hoj]
  cases hd:oj.dst with
  | none=>rw [hd] at h; exact h.elim
  | some d =>
   rw [hd] at h
   dsimp only at h ⊢
   cases hT:getT T d with
   | d y =>
    rw [hT] at h
    cases y with
    | b x =>
     dsimp only at h ⊢
     cases want with
     | true =>
      simp only [cond_true] at h
      replace h:=condS_and h
      cases x with
      | true=>exact .inl ⟨_,sameT.know hT,rfl,h.1 rfl⟩
      | false=>exact .inr ⟨_,sameT.know hT,rfl,h.2 rfl⟩
     | false =>
      simp only [cond_false] at h
      replace h:=condS_and h
      cases x with
      | true=>exact .inr ⟨_,sameT.know hT,rfl,h.1 rfl⟩
      | false=>exact .inl ⟨_,sameT.know hT,rfl,h.2 rfl⟩
    | _=>exact h.elim
   | tp vs =>
    rw [hT] at h
    cases vs with
    | nil=>exact .inr ⟨T,.refl T,rfl,h⟩
    | cons _ _=>exact h.elim
   | _=>rw [hT] at h; exact h.elim
def SeqQ (P : Program) (cx : Cx) (W : List (Nat × Nat)) (ops : Array Oper) : List (Nat × Nat) → Tp → Hp → (Tp → Hp → Prop) → Prop
  | [], T, H, K => K T H
  | (i, md) :: σ, T, H, K => nthK ops.toList i fun o => bif putB cx.N o.dst then guardK ops.toList o.guard T
        (fun T => match md with
          | 0 => ∃ v H', SD P cx.L o.op T H v H' ∧ Kp W i H H' ∧ SeqQ P cx W ops σ (putT o.dst v T) H' K
          | 1 => ∃ v, (∀ H', SD P cx.L o.op T H' v H') ∧ SeqQ P cx W ops σ (putT o.dst v T) H K
          | md + 2 => ∃ v, (rdOp o.op = true ∧ rdBlk (opd T (rdOpd o.op)) = rdB md ∧ SD P cx.L o.op T H v H) ∧ SeqQ P cx W ops σ (putT o.dst v T) H K)
        (fun T => SeqQ P cx W ops σ (putT o.dst (.tp []) T) H K)
      else False
theorem SeqQ.any {cx:Cx} {W:List (Nat × Nat)} {ops:Array Oper} {K:Tp→Hp→Prop}:∀ (σ:List (Nat × Nat)) (listed:Array Bool) (T:Tp) (H:Hp),okSeq W ops σ listed=true→SeqQ P cx W ops σ T H K→AnyA P cx W ops K σ.length listed T H
 | [],listed,T,H,hok,h=>⟨by simpa [okSeq] using hok,T,.refl T,h⟩
 | (i,md)::σ,listed,T,H,hok,h=>by
  simp only [okSeq,Bool.and_eq_true] at hok
  obtain ⟨h1,h2⟩:=hok
  simp only [SeqQ] at h
  replace h:=nthK_ok h
  obtain ⟨o,ho,h⟩:=h
  rw [Array.getElem?_toList] at ho
  cases hp:putB cx.N o.dst with
  | false=>rw [hp] at h; exact h.elim
  | true =>
  rw [hp] at h
  simp only [cond_true] at h
  have only:∀ v H',Region.ready .any ops listed=[i]→opX P cx.L ops o T H v H'→Kp W i H H'→AnyA P cx W ops K σ.length (listed.setIfInBounds i true) (putT o.dst v T) H'→AnyA P cx W ops K (σ.length+1) listed T H:=by
   intro v H' hr hx ha hs
   refine ⟨fun h0=>(by rw [hr] at h0; cases h0),fun j hj=>?_⟩
   rw [hr] at hj
   obtain rfl:j=i:=by simpa using hj
   exact ⟨o,v,H',ho,hx,ha,hp,hs⟩
  have tak:∀ v,i ∈ Region.ready .any ops listed→Region.free .any ops listed i=true→Steady P cx.L W ops listed i o T H v→AnyA P cx W ops K σ.length (listed.setIfInBounds i true) (putT o.dst v T) H→AnyA P cx W ops K (σ.length+1) listed T H:=by
   intro v hr hf hs hq
   exact AnyA.take ho hp σ.length listed T H (Region.free_spec ho hf) hr hs hq
  rcases guardK_gst h with ⟨T',hs,hg,h⟩ | ⟨T',hs,hg,h⟩
  ·have hop:∀ {v:AV} {H H':Hp},SD P cx.L o.op T' H v H'→SD P cx.L o.op T H v H':=fun hsd=>SD_congr (fun x _=>opd_same hs.symm x) hsd
   have back:∀ {v:AV} {H:Hp},AnyA P cx W ops K σ.length (listed.setIfInBounds i true) (putT o.dst v T') H→AnyA P cx W ops K σ.length (listed.setIfInBounds i true) (putT o.dst v T) H:=fun ha=>ha.congr _ _ _ _ _ (hs.symm.put o.dst _)
   rcases md with _ | _ | md
   ·obtain ⟨v,H',a,b,c⟩:=h
    exact only v H' (by simpa using h1) (.inl ⟨hg,hop a⟩) b (back (SeqQ.any σ _ _ _ h2 c))
   ·obtain ⟨v,a,c⟩:=h
    simp only [Bool.and_eq_true] at h1
    exact tak v (by simpa using h1.1) h1.2 (.inl ⟨hg,.inl fun H'=>hop (a H')⟩) (back (SeqQ.any σ _ _ _ h2 c))
   ·obtain ⟨v,⟨a,e,b⟩,c⟩:=h
    simp only [Bool.and_eq_true] at h1
    have hb:rdBlk (opd T (rdOpd o.op))=rdB md:=by rw [opd_same hs]; exact e
    refine tak v (by simpa using h1.1.1) h1.1.2 (.inl ⟨hg,.inr ⟨a,hop b,?_⟩⟩) (back (SeqQ.any σ _ _ _ h2 c))
    rw [hb]
    cases hr:rdB md with
    | none=>exact .inl rfl
    | some κ=>rw [hr] at h1; exact noWr_spec h1.2
  ·have back:∀ {v:AV} {H:Hp},AnyA P cx W ops K σ.length (listed.setIfInBounds i true) (putT o.dst v T') H→AnyA P cx W ops K σ.length (listed.setIfInBounds i true) (putT o.dst v T) H:=fun ha=>ha.congr _ _ _ _ _ (hs.symm.put o.dst _)
   have hc:=back (SeqQ.any σ _ _ _ h2 h)
   rcases md with _ | _ | md
   ·exact only _ H (by simpa using h1) (.inr ⟨hg,rfl,rfl⟩) (.refl _ _ _) hc
   ·simp only [Bool.and_eq_true] at h1
    exact tak _ (by simpa using h1.1) h1.2 (.inr ⟨hg,rfl⟩) hc
   ·simp only [Bool.and_eq_true] at h1
    exact tak _ (by simpa using h1.1.1) h1.1.2 (.inr ⟨hg,rfl⟩) hc
theorem DrawP.seqQ [Inhabited DSt] {cx:Cx} (hL:LayOK P cx.L) (hm:P.follows .mixedOrders=true) {id:Nat} {ops:Array Oper} {T:Tp} {H:Hp} {K:Tp→Hp→Prop} (W:List (Nat × Nat)) (σ:List (Nat × Nat))
  (hok:(Nat.beq σ.length ops.size && okSeq W ops σ (Array.replicate ops.size false))=true) (h:SeqQ P cx W ops σ T H K):DrawP P cx id ops T H K:=by
 simp only [Bool.and_eq_true] at hok
 have:=Nat.eq_of_beq_eq_true hok.1
 exact DrawP.any (W:=W) hL hm (by rw [← this]; exact SeqQ.any σ _ _ _ (by rw [this]; exact hok.2) h)
/-- A tree of orders: where two operations that make blocks may both come up,both ways are walked. -/
inductive TS where
 | nil
 | one (i md:Nat) (s:TS)
 | two (i:Nat) (a:TS) (j:Nat) (b:TS)
 | three (i:Nat) (a:TS) (j:Nat) (b:TS) (l:Nat) (c:TS)
def TS.len:TS→Nat
 | .nil=>0
 | .one _ _ s=>s.len+1
 | .two _ a _ _=>a.len+1
 | .three _ a _ _ _ _=>a.len+1
def okTree (W:List (Nat × Nat)) (ops:Array Oper):TS→Array Bool→Bool
 | .nil,listed=>(Region.ready .any ops listed).isEmpty
 | .one i md s,listed=>(match md with
   | 0=>Region.ready .any ops listed == [i]
   | 1=>(Region.ready .any ops listed).contains i && Region.free .any ops listed i
   | md+2=>(Region.ready .any ops listed).contains i && Region.free .any ops listed i && (match rdB md with
     | none=>true
     | some κ=>noWr W ops listed i κ)) && okTree W ops s (listed.setIfInBounds i true)
 | .two i a j b,listed=>Region.ready .any ops listed == [i,j] && Nat.beq a.len b.len && okTree W ops a (listed.setIfInBounds i true) && okTree W ops b (listed.setIfInBounds j true)
 | .three i a j b l c,listed=>Region.ready .any ops listed == [i,j,l] && Nat.beq a.len b.len && Nat.beq a.len c.len && okTree W ops a (listed.setIfInBounds i true) && okTree W ops b (listed.setIfInBounds j true) && okTree W ops c (listed.setIfInBounds l true)
def TreeQ (P : Program) (cx : Cx) (W : List (Nat × Nat)) (ops : Array Oper) : TS → Tp → Hp → (Tp → Hp → Prop) → Prop
  | .nil, T, H, K => K T H
  | .one i md σ, T, H, K => nthK ops.toList i fun o => bif putB cx.N o.dst then guardK ops.toList o.guard T
        (fun T => match md with
          | 0 => ∃ v H', SD P cx.L o.op T H v H' ∧ Kp W i H H' ∧ TreeQ P cx W ops σ (putT o.dst v T) H' K
          | 1 => ∃ v, (∀ H', SD P cx.L o.op T H' v H') ∧ TreeQ P cx W ops σ (putT o.dst v T) H K
          | md + 2 => ∃ v, (rdOp o.op = true ∧ rdBlk (opd T (rdOpd o.op)) = rdB md ∧ SD P cx.L o.op T H v H) ∧ TreeQ P cx W ops σ (putT o.dst v T) H K)
        (fun T => TreeQ P cx W ops σ (putT o.dst (.tp []) T) H K)
      else False
  | .two i a j b, T, H, K => (nthK ops.toList i fun o => bif putB cx.N o.dst && o.guard.isNone then ∃ v H', SD P cx.L o.op T H v H' ∧ Kp W i H H' ∧ TreeQ P cx W ops a (putT o.dst v T) H' K else False) ∧
      (nthK ops.toList j fun o => bif putB cx.N o.dst && o.guard.isNone then ∃ v H', SD P cx.L o.op T H v H' ∧ Kp W j H H' ∧ TreeQ P cx W ops b (putT o.dst v T) H' K else False)
  | .three i a j b l c, T, H, K => (nthK ops.toList i fun o => bif putB cx.N o.dst && o.guard.isNone then ∃ v H', SD P cx.L o.op T H v H' ∧ Kp W i H H' ∧ TreeQ P cx W ops a (putT o.dst v T) H' K else False) ∧
      (nthK ops.toList j fun o => bif putB cx.N o.dst && o.guard.isNone then ∃ v H', SD P cx.L o.op T H v H' ∧ Kp W j H H' ∧ TreeQ P cx W ops b (putT o.dst v T) H' K else False) ∧
      (nthK ops.toList l fun o => bif putB cx.N o.dst && o.guard.isNone then ∃ v H', SD P cx.L o.op T H v H' ∧ Kp W l H H' ∧ TreeQ P cx W ops c (putT o.dst v T) H' K else False)
theorem TreeQ.one2 {cx:Cx} {W:List (Nat × Nat)} {ops:Array Oper} {K:Tp→Hp→Prop} {i:Nat} {T:Tp} {H:Hp} {C:Oper→AV→Hp→Prop}
  (h:nthK ops.toList i fun o=>bif putB cx.N o.dst && o.guard.isNone then ∃ v H',SD P cx.L o.op T H v H'∧Kp W i H H'∧C o v H' else False) :
  ∃ o v H',ops[i]?=some o∧opX P cx.L ops o T H v H'∧Kp W i H H'∧putB cx.N o.dst=true∧C o v H':=by
 replace h:=nthK_ok h
 obtain ⟨o,ho,h⟩:=h
 rw [Array.getElem?_toList] at ho
 cases hp:putB cx.N o.dst && o.guard.isNone with
 | false=>rw [hp] at h; exact h.elim
 | true =>
  rw [hp] at h
  simp only [Bool.and_eq_true,Option.isNone_iff_eq_none] at hp
  obtain ⟨v,H',a,b,c⟩:=h
  exact ⟨o,v,H',ho,.inl ⟨by simp [gst,hp.2],a⟩,b,hp.1,c⟩
theorem TreeQ.any {cx:Cx} {W:List (Nat × Nat)} {ops:Array Oper} {K:Tp→Hp→Prop}:∀ (σ:TS) (listed:Array Bool) (T:Tp) (H:Hp),okTree W ops σ listed=true→TreeQ P cx W ops σ T H K→AnyA P cx W ops K σ.len listed T H
 | .nil,listed,T,H,hok,h=>⟨by simpa [okTree] using hok,T,.refl T,h⟩
 | .two i a j b,listed,T,H,hok,h=>by
  simp only [okTree,Bool.and_eq_true] at hok
  obtain ⟨⟨⟨h1,h2⟩,h3⟩,h4⟩:=hok
  have hr:Region.ready .any ops listed=[i,j]:=by simpa using h1
  have hl:=Nat.eq_of_beq_eq_true h2
  simp only [TreeQ] at h
  obtain ⟨o,v,H',e1,e2,e3,e4,e5⟩:=TreeQ.one2 (K:=K) h.1
  obtain ⟨o',v',H'',f1,f2,f3,f4,f5⟩:=TreeQ.one2 (K:=K) h.2
  refine ⟨fun h0=>(by rw [hr] at h0; cases h0),fun x hx=>?_⟩
  rw [hr] at hx
  rcases List.mem_cons.1 hx with rfl | hx
  ·exact ⟨o,v,H',e1,e2,e3,e4,TreeQ.any a _ _ _ h3 e5⟩
  ·obtain rfl:x=j:=by simpa using hx
   refine ⟨o',v',H'',f1,f2,f3,f4,?_⟩
   have:=TreeQ.any b _ _ _ h4 f5
   rwa [← hl] at this
 | .three i a j b l c,listed,T,H,hok,h=>by
  simp only [okTree,Bool.and_eq_true] at hok
  obtain ⟨⟨⟨⟨⟨h1,h2⟩,h2'⟩,h3⟩,h4⟩,h4'⟩:=hok
  have hr:Region.ready .any ops listed=[i,j,l]:=by simpa using h1
  have hl:=Nat.eq_of_beq_eq_true h2
  have hl':=Nat.eq_of_beq_eq_true h2'
  simp only [TreeQ] at h
  obtain ⟨o,v,H',e1,e2,e3,e4,e5⟩:=TreeQ.one2 (K:=K) h.1
  obtain ⟨o',v',H'',f1,f2,f3,f4,f5⟩:=TreeQ.one2 (K:=K) h.2.1
  obtain ⟨o'',v'',H3,g1,g2,g3,g4,g5⟩:=TreeQ.one2 (K:=K) h.2.2
  refine ⟨fun h0=>(by rw [hr] at h0; cases h0),fun x hx=>?_⟩
  rw [hr] at hx
  rcases List.mem_cons.1 hx with rfl | hx
  ·exact ⟨o,v,H',e1,e2,e3,e4,TreeQ.any a _ _ _ h3 e5⟩
  ·rcases List.mem_cons.1 hx with rfl | hx
   ·refine ⟨o',v',H'',f1,f2,f3,f4,?_⟩
    have:=TreeQ.any b _ _ _ h4 f5
    rwa [← hl] at this
   ·obtain rfl:x=l:=by simpa using hx
    refine ⟨o'',v'',H3,g1,g2,g3,g4,?_⟩
    have:=TreeQ.any c _ _ _ h4' g5
    rwa [← hl'] at this
 | .one i md σ,listed,T,H,hok,h=>by
  simp only [okTree,Bool.and_eq_true] at hok
  obtain ⟨h1,h2⟩:=hok
  simp only [TreeQ] at h
  replace h:=nthK_ok h
  obtain ⟨o,ho,h⟩:=h
  rw [Array.getElem?_toList] at ho
  cases hp:putB cx.N o.dst with
  | false=>rw [hp] at h; exact h.elim
  | true =>
  rw [hp] at h
  simp only [cond_true] at h
  have only:∀ v H',Region.ready .any ops listed=[i]→opX P cx.L ops o T H v H'→Kp W i H H'→AnyA P cx W ops K σ.len (listed.setIfInBounds i true) (putT o.dst v T) H'→AnyA P cx W ops K (σ.len+1) listed T H:=by
   intro v H' hr hx ha hs
   refine ⟨fun h0=>(by rw [hr] at h0; cases h0),fun j hj=>?_⟩
   rw [hr] at hj
   obtain rfl:j=i:=by simpa using hj
   exact ⟨o,v,H',ho,hx,ha,hp,hs⟩
  have tak:∀ v,i ∈ Region.ready .any ops listed→Region.free .any ops listed i=true→Steady P cx.L W ops listed i o T H v→AnyA P cx W ops K σ.len (listed.setIfInBounds i true) (putT o.dst v T) H→AnyA P cx W ops K (σ.len+1) listed T H:=by
   intro v hr hf hs hq
   exact AnyA.take ho hp σ.len listed T H (Region.free_spec ho hf) hr hs hq
  rcases guardK_gst h with ⟨T',hs,hg,h⟩ | ⟨T',hs,hg,h⟩
  ·have hop:∀ {v:AV} {H H':Hp},SD P cx.L o.op T' H v H'→SD P cx.L o.op T H v H':=fun hsd=>SD_congr (fun x _=>opd_same hs.symm x) hsd
   have back:∀ {v:AV} {H:Hp},AnyA P cx W ops K σ.len (listed.setIfInBounds i true) (putT o.dst v T') H→AnyA P cx W ops K σ.len (listed.setIfInBounds i true) (putT o.dst v T) H:=fun ha=>ha.congr _ _ _ _ _ (hs.symm.put o.dst _)
   rcases md with _ | _ | md
   ·obtain ⟨v,H',a,b,c⟩:=h
    exact only v H' (by simpa using h1) (.inl ⟨hg,hop a⟩) b (back (TreeQ.any σ _ _ _ h2 c))
   ·obtain ⟨v,a,c⟩:=h
    simp only [Bool.and_eq_true] at h1
    exact tak v (by simpa using h1.1) h1.2 (.inl ⟨hg,.inl fun H'=>hop (a H')⟩) (back (TreeQ.any σ _ _ _ h2 c))
   ·obtain ⟨v,⟨a,e,b⟩,c⟩:=h
    simp only [Bool.and_eq_true] at h1
    have hb:rdBlk (opd T (rdOpd o.op))=rdB md:=by rw [opd_same hs]; exact e
    refine tak v (by simpa using h1.1.1) h1.1.2 (.inl ⟨hg,.inr ⟨a,hop b,?_⟩⟩) (back (TreeQ.any σ _ _ _ h2 c))
    rw [hb]
    cases hr:rdB md with
    | none=>exact .inl rfl
    | some κ=>rw [hr] at h1; exact noWr_spec h1.2
  ·have back:∀ {v:AV} {H:Hp},AnyA P cx W ops K σ.len (listed.setIfInBounds i true) (putT o.dst v T') H→AnyA P cx W ops K σ.len (listed.setIfInBounds i true) (putT o.dst v T) H:=fun ha=>ha.congr _ _ _ _ _ (hs.symm.put o.dst _)
   have hc:=back (TreeQ.any σ _ _ _ h2 h)
   rcases md with _ | _ | md
   ·exact only _ H (by simpa using h1) (.inr ⟨hg,rfl,rfl⟩) (.refl _ _ _) hc
   ·simp only [Bool.and_eq_true] at h1
    exact tak _ (by simpa using h1.1) h1.2 (.inr ⟨hg,rfl⟩) hc
   ·simp only [Bool.and_eq_true] at h1
    exact tak _ (by simpa using h1.1.1) h1.1.2 (.inr ⟨hg,rfl⟩) hc
theorem DrawP.treeQ [Inhabited DSt] {cx:Cx} (hL:LayOK P cx.L) (hm:P.follows .mixedOrders=true) {id:Nat} {ops:Array Oper} {T:Tp} {H:Hp} {K:Tp→Hp→Prop} (W:List (Nat × Nat)) (σ:TS)
  (hok:(Nat.beq σ.len ops.size && okTree W ops σ (Array.replicate ops.size false))=true) (h:TreeQ P cx W ops σ T H K):DrawP P cx id ops T H K:=by
 simp only [Bool.and_eq_true] at hok
 have:=Nat.eq_of_beq_eq_true hok.1
 exact DrawP.any (W:=W) hL hm (by rw [← this]; exact TreeQ.any σ _ _ _ (by rw [this]; exact hok.2) h)
end Go.Abs
