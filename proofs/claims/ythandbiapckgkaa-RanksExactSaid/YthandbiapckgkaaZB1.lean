/- Statement by statement: the rules of Tr; weakening where nil slices are blocks; loops out of their models. No condition. -/
import Derived.Test.YthandbiapckgkaaZA18
namespace Go.Abs
variable {P:Program} {X:Nat→Prop} {m m':Mp} {H:Hp} {w w':World}
theorem Tr.seq [Inhabited DSt] {cx:Cx} {A B:Code} {T:Tp} {H:Hp} {Q:Post} (h:Tr P cx A T H fun e T H=>match e with
  | .normal=>Tr P cx B T H Q
  | e=>Q e T H):Tr P cx (.seq A B) T H Q:=by
 unfold Tr at h ⊢
 intro X mb wb m a w hF hr
 refine wpX_seq (wpX_mono (h X mb wb m a w hF hr) ?_)
 rintro e a w ⟨m,T,H,hr,hq⟩
 cases e with
 | normal=>exact hq X mb wb m a w hF hr
 | _=>exact ⟨m,T,H,hr,hq⟩
theorem Tr.skip [Inhabited DSt] {cx:Cx} {T:Tp} {H:Hp} {Q:Post} (h:Q .normal T H):Tr P cx .skip T H Q:=by
 unfold Tr; exact fun X mb wb m a w hF hr=>wpX_skip ⟨m,T,H,hr,h⟩
theorem Tr.label [Inhabited DSt] {cx:Cx} {l:Nat} {T:Tp} {H:Hp} {Q:Post} (h:Run P cx (.label l) T H Q):Tr P cx (.label l) T H Q:=by
 unfold Tr; exact fun X mb wb m a w hF hr=>wpX_label ⟨m,T,H,hr,h⟩
theorem Tr.exit [Inhabited DSt] {cx:Cx} {id:Nat} {T:Tp} {H:Hp} {Q:Post} (h:Q (.exit id) T H):Tr P cx (.exit id) T H Q:=by
 unfold Tr; exact fun X mb wb m a w hF hr=>wpX_exit ⟨m,T,H,hr,h⟩
theorem Tr.ret [Inhabited DSt] {cx:Cx} {T:Tp} {H:Hp} {Q:Post} (h:Q .ret T H):Tr P cx .ret T H Q:=by
 unfold Tr; exact fun X mb wb m a w hF hr=>wpX_ret ⟨m,T,H,hr,h⟩
def bK (x:AV) (k:Bool→Prop):Prop:=match x with
 | .d (.b t)=>k t
 | _=>False
theorem Tr.cond [Inhabited DSt] {cx:Cx} {c:Operand} {x y:Code} {T:Tp} {H:Hp} {Q:Post} (h:bK (opd T c) fun t=>condS t (Tr P cx x T H Q) (Tr P cx y T H Q)):Tr P cx (.cond c x y) T H Q:=by
 unfold bK at h
 split at h
 ·rename_i t hc
  replace h:=condS_and h
  unfold Tr at h ⊢
  intro X mb wb m a w hF hr
  have ho:=opd_ok hr c
  rw [hc] at ho
  exact wpX_cond_split ho.bool (fun ht=>h.1 ht X mb wb m a w hF hr) (fun ht=>h.2 ht X mb wb m a w hF hr)
 ·exact h.elim
def inB (id:Nat) (Q:Post):Post:=fun e T H=>match e with
 | .exit id'=>bif Nat.beq id' id then Q .normal T H else Q (.exit id') T H
 | e=>Q e T H
theorem Tr.block [Inhabited DSt] {cx:Cx} {id:Nat} {c:Code} {T:Tp} {H:Hp} {Q:Post} (h:Tr P cx c T H (inB id Q)):Tr P cx (.block id c) T H Q:=by
 unfold Tr at h ⊢
 intro X mb wb m a w hF hr
 refine wpX_block (wpX_mono (h X mb wb m a w hF hr) ?_)
 rintro e a w ⟨m,T,H,hr,hq⟩
 unfold inB at hq
 cases e with
 | exit id' =>
  simp only [Exit.inBlock]
  by_cases hid:id'=id
  ·subst hid
   simp only [Nat.beq_refl,cond_true] at hq
   rw [if_pos rfl]; exact ⟨m,T,H,hr,hq⟩
  ·have hb:Nat.beq id' id=false:=by
    cases hq:Nat.beq id' id with
    | false=>rfl
    | true=>exact absurd (Nat.eq_of_beq_eq_true hq) hid
   simp only [hb,cond_false] at hq
   rw [if_neg hid]; exact ⟨m,T,H,hr,hq⟩
 | _=>exact ⟨m,T,H,hr,hq⟩
theorem Tr.region [Inhabited DSt] {cx:Cx} (hL:LayOK P cx.L) {id:Nat} {ops:Array Oper} {T:Tp} {H:Hp} {Q:Post} (h:RunOps P cx ops.toList ops.toList T H fun T H=>Q .normal T H):Tr P cx (.region id ops false) T H Q:=by
 unfold Tr
 intro X mb wb m a w hF hr
 refine wpX_region ?_
 have hrun:=RunOps_ok (Q:=fun e a w=>∃ m T H,Rel X mb wb cx.N m T H a w∧Q e T H) hL ops (d0:=a.defers) (fun m T H a w _ hr hk=>⟨m,T,H,hr,hk⟩) ops.toList 0 T H m a w rfl (by simp) h hr
 rw [List.range_eq_range']
 simpa using hrun
theorem Tr.draw [Inhabited DSt] {cx:Cx} {id:Nat} {ops:Array Oper} {T:Tp} {H:Hp} {Q:Post} (h:DrawP P cx id ops T H fun T H=>Q .normal T H):Tr P cx (.region id ops true) T H Q:=by
 unfold DrawP Tr at h
 unfold Tr
 intro X mb wb m a w hF hr
 refine wpX_mono (h X mb wb m a w hF hr) ?_
 rintro e a w ⟨m,T,H,hr,hq⟩
 cases e with
 | normal=>exact ⟨m,T,H,hr,hq⟩
 | _=>exact hq.elim
theorem Tr.cut [Inhabited DSt] {α:Type} {cx:Cx} {A B:Code} {T:Tp} {H:Hp} {Q:Post} (Sc:α→Tp × Hp) (G:α→Prop) (hB:∀ s,G s→Tr P cx B (Sc s).1 (Sc s).2 Q)
  (hA:Tr P cx A T H fun e T' H'=>match e with
   | .normal=>∃ s,G s∧Wk cx.F T' H' (Sc s).1 (Sc s).2
   | e=>Q e T' H'):Tr P cx (.seq A B) T H Q:=by
 refine Tr.seq (hA.mono ?_)
 rintro e T' H' h
 cases e with
 | normal=>obtain ⟨s,hg,hw⟩:=h; exact Tr.weak hw (hB s hg)
 | _=>exact h
theorem Tr.loopC [Inhabited DSt] {α:Type} {cx:Cx} {c:Code} {T:Tp} {H:Hp} {Q:Post} (S:α→Tp × Hp) (μ:α→Nat) (x0:α) (h0:Wk cx.F T H (S x0).1 (S x0).2)
  (round:∀ x,Tr P cx c (S x).1 (S x).2 fun e T' H'=>match e with
   | .normal=>∃ y,μ y < μ x∧Wk cx.F T' H' (S y).1 (S y).2
   | e=>Q e T' H'):Tr P cx (.loop c) T H Q:=by
 refine Tr.weak h0 ?_
 unfold Tr
 intro X mb wb m a w hF hr
 have key:∀ (n:Nat) (x:α) (m:Mp) (a:Act) (w:World),μ x < n→Rel X mb wb cx.N m (S x).1 (S x).2 a w→Code.roundsX (Fw cx.ro) 0 P c (fun e a w=>∃ m T H,Rel X mb wb cx.N m T H a w∧Q e T H) n a w:=by
  intro n
  induction n with
  | zero=>intro x m a w h _; omega
  | succ n ih =>
   intro x m a w hn hr
   have h1:=round x
   unfold Tr at h1
   rw [roundsX_succ]
   refine wpX_mono (h1 X mb wb m a w hF hr) ?_
   rintro e a w ⟨m1,T1,H1,hr1,hq⟩
   cases e with
   | normal =>
    obtain ⟨y,hy,hwk⟩:=hq
    unfold Wk at hwk
    obtain ⟨m2,hr2,_⟩:=hwk X mb wb cx.N m1 a w hF hr1
    exact ih y m2 a w (by omega) hr2
   | _=>exact ⟨m1,T1,H1,hr1,hq⟩
 exact wpX_loop_rounds (μ x0+1) (key _ x0 m a w (Nat.lt_succ_self _) hr)
theorem Tr.loopM [Inhabited DSt] {σ ρ:Type} {cx:Cx} {c:Code} {T:Tp} {H:Hp} {Q:Post} (M:Nat→σ→Option ρ) (r:ρ) (S:σ→Tp × Hp) (n0:Nat) (s0:σ) (hM:M n0 s0=some r) (hz:∀ s,M 0 s=none) (h0:Wk cx.F T H (S s0).1 (S s0).2)
  (round:∀ n s,M (n+1) s=some r→Tr P cx c (S s).1 (S s).2 fun e T' H'=>match e with
   | .normal=>∃ s',M n s'=some r∧Wk cx.F T' H' (S s').1 (S s').2
   | e=>Q e T' H'):Tr P cx (.loop c) T H Q:=by
 refine Tr.loopC (α:={ p:Nat × σ // M p.1 p.2=some r }) (fun p=>S p.1.2) (fun p=>p.1.1) ⟨(n0,s0),hM⟩ h0 ?_
 rintro ⟨⟨n,s⟩,h⟩
 cases n with
 | zero=>rw [hz] at h; cases h
 | succ n =>
  refine (round n s h).mono ?_
  rintro e T' H' hq
  cases e with
  | normal=>obtain ⟨s',h1,h2⟩:=hq; exact ⟨⟨(n,s'),h1⟩,Nat.lt_succ_self _,h2⟩
  | _=>exact hq
/- Weakening,nil slices turned into blocks of their own: ρ: for each new block the old one's number; M+2i: a nil slice's; M+2i+1: a dead one. -/
mutual
def ren2 (ρ:List Nat) (M:Nat):AV→AV
 | .d x=>.d x
 | .ag cs=>.ag (ren2L ρ M cs)
 | .tp cs=>.tp (ren2L ρ M cs)
 | .fn f cs=>.fn f (ren2L ρ M cs)
 | .fm f cs=>.fm f (ren2L ρ M cs)
 | .sl κ k off n=>bif Nat.blt (refK ρ κ) M then .sl (refK ρ κ) k off n else .nsl
 | .mr κ=>.mr (refK ρ κ)
 | .pt κ off=>.pt (refK ρ κ) off
 | .pe κ k j off=>.pe (refK ρ κ) k j off
 | .nsl=>.nsl
 | .yl l=>.yl l
 | .mx b=>.mx b
 | .cv v=>.cv v
 | .vw κ k off n=>.vw κ k off n
 | .un=>.un
def ren2L (ρ:List Nat) (M:Nat):List AV→List AV
 | []=>[]
 | x::l=>ren2 ρ M x::ren2L ρ M l
end
mutual
def ok2 (ρ:List Nat) (M:Nat):AV→Bool
 | .ag cs | .tp cs | .fn _ cs | .fm _ cs=>ok2L ρ M cs
 | .sl κ _ off k=>Nat.blt κ ρ.length && (Nat.blt (refK ρ κ) M || (Nat.beq off 0 && Nat.beq k 0))
 | .mr κ | .pt κ _ | .pe κ _ _ _=>Nat.blt κ ρ.length && Nat.blt (refK ρ κ) M
 | .d _ | .nsl | .yl _ | .mx _ | .cv _ | .un=>true
 | .vw _ _ _ _=>false
def ok2L (ρ:List Nat) (M:Nat):List AV→Bool
 | []=>true
 | x::l=>ok2 ρ M x && ok2L ρ M l
end
theorem ren2L_length (ρ:List Nat) (M:Nat):∀ l:List AV,(ren2L ρ M l).length=l.length
 | []=>rfl
 | x::l=>by simp [ren2L,ren2L_length ρ M l]
theorem ren2L_get (ρ:List Nat) (M:Nat):∀ (l:List AV) (j:Nat) c,l[j]?=some c→(ren2L ρ M l)[j]?=some (ren2 ρ M c)
 | [],j,c,h=>by simp at h
 | x::l,0,c,h=>by simp at h; subst h; rfl
 | x::l,j+1,c,h=>by simpa [ren2L] using ren2L_get ρ M l j c (by simpa using h)
theorem ok2L_get {ρ:List Nat} {M:Nat}:∀ {l:List AV},ok2L ρ M l=true→∀ (j:Nat) c,l[j]?=some c→ok2 ρ M c=true
 | [],_,j,c,h=>by simp at h
 | x::l,h,0,c,hc=>by simp [ok2L] at h; simp at hc; subst hc; exact h.1
 | x::l,h,j+1,c,hc=>by simp [ok2L] at h; exact ok2L_get (l:=l) h.2 j c (by simpa using hc)
theorem ren2L_d (ρ:List Nat) (M:Nat):∀ l:List D,ren2L ρ M (l.map AV.d)=l.map AV.d
 | []=>rfl
 | a::l=>by simp only [List.map_cons,ren2L,ren2,ren2L_d ρ M l]
theorem ok2L_d (ρ:List Nat) (M:Nat):∀ l:List D,ok2L ρ M (l.map AV.d)=true
 | []=>rfl
 | a::l=>by simp [ok2L,ok2,ok2L_d ρ M l]
def pick2 (ρ:List Nat) (m:Mp):Mp:=ρ.map fun κ=>bif Nat.blt κ m.length then (m[κ]?).getD .dead else bif Nat.beq ((κ - m.length) % 2) 0 then .nil else .dead
theorem refK_get {ρ:List Nat} {κ κ':Nat} (h:ρ[κ]?=some κ'):refK ρ κ=κ':=by simp [refK,List.getD,h]
theorem pick2_get {ρ:List Nat} {m:Mp} {κ:Nat} {e:ME} (h:(pick2 ρ m)[κ]?=some e):κ < ρ.length∧((refK ρ κ < m.length∧m[refK ρ κ]?=some e)∨(m.length≤refK ρ κ∧e=.nil∧(refK ρ κ - m.length) % 2=0)∨(m.length≤refK ρ κ∧e=.dead)):=by
 simp only [pick2,List.getElem?_map,Option.map_eq_some_iff] at h
 obtain ⟨κ',hκ,rfl⟩:=h
 refine ⟨(List.getElem?_eq_some_iff.1 hκ).1,?_⟩
 rw [refK_get hκ]
 cases hb:Nat.blt κ' m.length with
 | true =>
  have hl:κ' < m.length:=by simpa [Nat.blt_eq] using hb
  exact .inl ⟨hl,by simp [hl]⟩
 | false =>
  have hge:m.length≤κ':=by
   rcases Nat.lt_or_ge κ' m.length with h | h
   ·rw [show Nat.blt κ' m.length=true by simpa [Nat.blt_eq] using h] at hb; cases hb
   ·exact h
  cases hq:Nat.beq ((κ' - m.length) % 2) 0 with
  | true=>exact .inr (.inl ⟨hge,rfl,Nat.eq_of_beq_eq_true hq⟩)
  | false=>exact .inr (.inr ⟨hge,rfl⟩)
theorem pick2_blk {ρ:List Nat} {m:Mp} {κ b:Nat} (h:(pick2 ρ m)[κ]?=some (.blk b)):κ < ρ.length∧m[refK ρ κ]?=some (.blk b):=by
 obtain ⟨h0,⟨_,h2⟩ | ⟨_,h2,_⟩ | ⟨_,h2⟩⟩:=pick2_get h
 ·exact ⟨h0,h2⟩
 ·cases h2
 ·cases h2
theorem pick2_mem {ρ:List Nat} {b:Nat} {m:Mp} (h:ME.blk b ∈ pick2 ρ m):ME.blk b ∈ m:=by
 obtain ⟨κ,hκ⟩:=get_of_mem h
 exact mem_of_get (pick2_blk hκ).2
theorem V.ren2 {ρ:List Nat}:∀ {x:AV} {v:Value},ok2 ρ m.length x=true→V X m w v (Abs.ren2 ρ m.length x)→V X (pick2 ρ m) w v x:=by
 intro x v hok h
 have himm:∀ b,Imm X m w b→Imm X (pick2 ρ m) w b:=fun b hb=>⟨hb.1,hb.2.1,fun h=>hb.2.2 (pick2_mem h)⟩
 have hlen:(pick2 ρ m).length=ρ.length:=by simp [pick2]
 have nosl:∀ {κ k off n:Nat} {y:AV},Abs.ren2 ρ m.length (.sl κ k off n)=y→y=.nsl∨∃ κ' k' off' n',y=.sl κ' k' off' n':=by
  intro κ k off n y hy
  simp only [Abs.ren2] at hy
  cases hb:Nat.blt (refK ρ κ) m.length <;> rw [hb] at hy
  ·exact .inl hy.symm
  ·exact .inr ⟨_,_,_,_,hy.symm⟩
 generalize hy:Abs.ren2 ρ m.length x=y at h
 induction h generalizing x with
 | d v y hr =>
  cases x with
  | d q=>simp only [Abs.ren2,AV.d.injEq] at hy; subst hy; exact .d _ _ (hr.mono fun b hb=>⟨himm b hb,rfl⟩)
  | sl κ k off n=>rcases nosl hy with h | ⟨_,_,_,_,h⟩ <;> cases h
  | _=>simp [Abs.ren2] at hy
 | ag vs cs hl h1 hc ih =>
  cases x with
  | ag xs =>
   simp only [Abs.ren2,AV.ag.injEq] at hy
   subst hy
   exact .ag vs xs (by rw [hl,ren2L_length]) h1 fun j v c hv hcx=>ih j v _ hv (ren2L_get ρ _ xs j c hcx) (ok2L_get hok j c hcx) rfl
  | sl κ k off n=>rcases nosl hy with h | ⟨_,_,_,_,h⟩ <;> cases h
  | _=>simp [Abs.ren2] at hy
 | tp vs cs hl hc ih =>
  cases x with
  | tp xs =>
   simp only [Abs.ren2,AV.tp.injEq] at hy
   subst hy
   exact .tp vs xs (by rw [hl,ren2L_length]) fun j v c hv hcx=>ih j v _ hv (ren2L_get ρ _ xs j c hcx) (ok2L_get hok j c hcx) rfl
  | sl κ k off n=>rcases nosl hy with h | ⟨_,_,_,_,h⟩ <;> cases h
  | _=>simp [Abs.ren2] at hy
 | fn f vs cs hl hc ih =>
  cases x with
  | fn g xs =>
   simp only [Abs.ren2,AV.fn.injEq] at hy
   obtain ⟨rfl,rfl⟩:=hy
   exact .fn g vs xs (by rw [hl,ren2L_length]) fun j v c hv hcx=>ih j v _ hv (ren2L_get ρ _ xs j c hcx) (ok2L_get hok j c hcx) rfl
  | sl κ k off n=>rcases nosl hy with h | ⟨_,_,_,_,h⟩ <;> cases h
  | _=>simp [Abs.ren2] at hy
 | fm f vs cs hl hc ih =>
  cases x with
  | fm g xs =>
   simp only [Abs.ren2,AV.fm.injEq] at hy
   obtain ⟨rfl,rfl⟩:=hy
   exact .fm g vs xs (by rw [hl,ren2L_length]) fun j v c hv hcx=>ih j v _ hv (ren2L_get ρ _ xs j c hcx) (ok2L_get hok j c hcx) rfl
  | sl κ k off n=>rcases nosl hy with h | ⟨_,_,_,_,h⟩ <;> cases h
  | _=>simp [Abs.ren2] at hy
 | sl v κ k off n hκ h1 hb h0 =>
  cases x with
  | sl κ' k' off' n' =>
   simp only [Abs.ren2] at hy
   cases hlt:Nat.blt (refK ρ κ') m.length with
   | false=>rw [hlt] at hy; simp at hy
   | true =>
    rw [hlt] at hy
    simp only [cond_true,AV.sl.injEq] at hy
    obtain ⟨rfl,rfl,rfl,rfl⟩:=hy
    simp only [ok2,Bool.and_eq_true,Nat.blt_eq] at hok
    have hlt':refK ρ κ' < m.length:=by simpa [Nat.blt_eq] using hlt
    refine .sl v κ' _ _ _ (by rw [hlen]; exact hok.1) h1 (fun b hb'=>hb b (pick2_blk hb').2) (fun hb'=>?_)
    obtain ⟨_,⟨_,h2⟩ | ⟨h2,_⟩ | ⟨h2,_⟩⟩:=pick2_get hb'
    ·exact h0 h2
    ·omega
    ·omega
  | _=>simp [Abs.ren2] at hy
 | pe v κ k j off hκ h1 hb h0 =>
  cases x with
  | pe κ' k' j' off' =>
   simp only [Abs.ren2,AV.pe.injEq] at hy
   obtain ⟨rfl,rfl,rfl,rfl⟩:=hy
   simp only [ok2,Bool.and_eq_true,Nat.blt_eq] at hok
   refine .pe v κ' _ _ _ (by rw [hlen]; exact hok.1) h1 (fun b hb'=>hb b (pick2_blk hb').2) (fun hb'=>?_)
   obtain ⟨_,⟨_,h2⟩ | ⟨h2,_⟩ | ⟨h2,_⟩⟩:=pick2_get hb'
   ·exact h0 h2
   ·omega
   ·omega
  | sl κ k off n=>rcases nosl hy with h | ⟨_,_,_,_,h⟩ <;> cases h
  | _=>simp [Abs.ren2] at hy
 | mr v κ hκ h1 hb h0 =>
  cases x with
  | mr κ' =>
   simp only [Abs.ren2,AV.mr.injEq] at hy
   subst hy
   simp only [ok2,Bool.and_eq_true,Nat.blt_eq] at hok
   refine .mr v κ' (by rw [hlen]; exact hok.1) h1 (fun b hb'=>hb b (pick2_blk hb').2) (fun hb'=>?_)
   obtain ⟨_,⟨_,h2⟩ | ⟨h2,_⟩ | ⟨h2,_⟩⟩:=pick2_get hb'
   ·exact h0 h2
   ·omega
   ·omega
  | sl κ k off n=>rcases nosl hy with h | ⟨_,_,_,_,h⟩ <;> cases h
  | _=>simp [Abs.ren2] at hy
 | pt v κ off hκ h1 hb h0 =>
  cases x with
  | pt κ' off' =>
   simp only [Abs.ren2,AV.pt.injEq] at hy
   obtain ⟨rfl,rfl⟩:=hy
   simp only [ok2,Bool.and_eq_true,Nat.blt_eq] at hok
   refine .pt v κ' _ (by rw [hlen]; exact hok.1) h1 (fun b hb'=>hb b (pick2_blk hb').2) (fun hb'=>?_)
   obtain ⟨_,⟨_,h2⟩ | ⟨h2,_⟩ | ⟨h2,_⟩⟩:=pick2_get hb'
   ·exact h0 h2
   ·omega
   ·omega
  | sl κ k off n=>rcases nosl hy with h | ⟨_,_,_,_,h⟩ <;> cases h
  | _=>simp [Abs.ren2] at hy
 | nsl =>
  cases x with
  | nsl=>exact .nsl
  | sl κ k off n =>
   simp only [Abs.ren2] at hy
   cases hlt:Nat.blt (refK ρ κ) m.length with
   | true=>rw [hlt] at hy; simp at hy
   | false =>
    simp only [ok2,hlt,Bool.false_or,Bool.and_eq_true,Nat.blt_eq] at hok
    obtain ⟨hκ,ho,hk⟩:=hok
    obtain rfl:=Nat.eq_of_beq_eq_true ho
    obtain rfl:=Nat.eq_of_beq_eq_true hk
    have hge:m.length≤refK ρ κ:=by
     rcases Nat.lt_or_ge (refK ρ κ) m.length with h | h
     ·rw [show Nat.blt (refK ρ κ) m.length=true by simpa [Nat.blt_eq] using h] at hlt; cases hlt
     ·exact h
    refine .sl _ κ _ _ _ (by rw [hlen]; exact hκ) rfl (fun b hb'=>?_) (fun _=>⟨rfl,rfl⟩)
    obtain ⟨_,⟨h1,_⟩ | ⟨_,h2,_⟩ | ⟨_,h2⟩⟩:=pick2_get hb'
    ·omega
    ·cases h2
    ·cases h2
  | _=>simp [Abs.ren2] at hy
 | yl l =>
  cases x with
  | yl q=>simp only [Abs.ren2,AV.yl.injEq] at hy; subst hy; exact .yl _
  | sl κ k off n=>rcases nosl hy with h | ⟨_,_,_,_,h⟩ <;> cases h
  | _=>simp [Abs.ren2] at hy
 | vw v κ k off n hκ hb h0 =>
  cases x with
  | vw κ' k' off' n'=>simp [ok2] at hok
  | sl κ k off n=>rcases nosl hy with h | ⟨_,_,_,_,h⟩ <;> cases h
  | _=>simp [Abs.ren2] at hy
 | cv l =>
  cases x with
  | cv q=>simp only [Abs.ren2,AV.cv.injEq] at hy; subst hy; exact .cv _
  | sl κ k off n=>rcases nosl hy with h | ⟨_,_,_,_,h⟩ <;> cases h
  | _=>simp [Abs.ren2] at hy
 | mx l =>
  cases x with
  | mx q=>simp only [Abs.ren2,AV.mx.injEq] at hy; subst hy; exact .mx _
  | sl κ k off n=>rcases nosl hy with h | ⟨_,_,_,_,h⟩ <;> cases h
  | _=>simp [Abs.ren2] at hy
 | un v =>
  cases x with
  | un=>exact .un _
  | sl κ k off n=>rcases nosl hy with h | ⟨_,_,_,_,h⟩ <;> cases h
  | _=>simp [Abs.ren2] at hy
theorem ren2_cells (ρ:List Nat) (M:Nat) (x:AV):(ren2 ρ M x).cells=ren2L ρ M x.cells:=by
 cases x with
 | d y=>simp only [ren2,AV.cells]; rw [ren2L_d]
 | sl κ k off n=>simp only [ren2,AV.cells,ren2L]; cases Nat.blt (refK ρ κ) M <;> rfl
 | _=>rfl
theorem ok2_cells {ρ:List Nat} {M:Nat} {x:AV} (h:ok2 ρ M x=true):ok2L ρ M x.cells=true:=by
 cases x with
 | d y=>exact ok2L_d ρ M y.cells
 | ag cs=>exact h
 | tp cs=>simpa [AV.cells,ok2L,ok2] using h
 | fn f cs=>simpa [AV.cells,ok2L,ok2] using h
 | fm f cs=>simpa [AV.cells,ok2L,ok2] using h
 | sl κ k off q=>simp only [AV.cells,ok2L,Bool.and_true]; exact h
 | pe κ _ _ _=>simp only [AV.cells,ok2L,Bool.and_true]; exact h
 | mr κ=>simp only [AV.cells,ok2L,Bool.and_true]; exact h
 | pt κ _=>simp only [AV.cells,ok2L,Bool.and_true]; exact h
 | nsl=>rfl
 | yl _=>rfl
 | mx _=>rfl
 | cv _=>rfl
 | vw _ _ _ _=>simp [ok2] at h
 | un=>rfl
def ren2B (ρ:List Nat) (M:Nat):Blk→Blk
 | .var cs=>.var (ren2L ρ M cs)
 | .arr k es=>.arr k (ren2L ρ M es)
 | .mp E=>.mp E
def ok2B (ρ:List Nat) (M:Nat):Blk→Bool
 | .var cs=>ok2L ρ M cs
 | .arr _ es=>ok2L ρ M es
 | .mp _=>true
theorem BRel.ren2 {ρ:List Nat} {vs:Array Value} {B:Blk} (hok:ok2B ρ m.length B=true) (h:BRel X m w vs (ren2B ρ m.length B)):BRel X (pick2 ρ m) w vs B:=by
 cases B with
 | var cs =>
  intro j c hc
  obtain ⟨v,e,hC⟩:=h j _ (ren2L_get ρ _ cs j c hc)
  exact ⟨v,e,V.ren2 (ok2L_get hok j c hc) hC.1,hC.2⟩
 | arr k es =>
  refine ⟨fun e he=>?_,fun j e l c he hc=>?_⟩
  ·obtain ⟨j,hj⟩:=List.getElem?_of_mem he
   have:=h.1 _ (List.mem_of_getElem? (ren2L_get ρ _ es j e hj))
   rwa [ren2_cells,ren2L_length] at this
  ·have he':=ren2L_get ρ m.length es j e he
   have hc':(Abs.ren2 ρ m.length e).cells[l]?=some (Abs.ren2 ρ m.length c):=by rw [ren2_cells]; exact ren2L_get ρ _ _ l c hc
   obtain ⟨v,e1,hC⟩:=h.2 j _ l _ he' hc'
   exact ⟨v,e1,V.ren2 (ok2L_get (ok2_cells (ok2L_get hok j e he)) l c hc) hC.1,hC.2⟩
 | mp E=>exact h
def wk2T (ρ:List Nat) (M:Nat) (T:Tp):Tp→Prop
 | []=>True
 | (t,x)::r=>(ok2 ρ M x=true∧getT T t=ren2 ρ M x)∧wk2T ρ M T r
@[irreducible] def daS (ρ:List Nat) (M k:Nat) (es:List AV) (B':Option Blk):Prop:=ok2L ρ M es=true∧B'=some (.arr k (ren2L ρ M es))
theorem daS_d {ρ:List Nat} {M k:Nat} {ds:List D} {B':Option Blk} (h:B'=some (.arr k (ds.map .d))):daS ρ M k (ds.map .d) B':=by
 unfold daS; exact ⟨ok2L_d _ _ ds,by rw [ren2L_d]; exact h⟩
@[irreducible] def maS (E:List (D × D)) (B':Option Blk):Prop:=B'=some (.mp E)
def wk2B (ρ:List Nat) (M:Nat) (B':Option Blk):Blk→Prop
 | .var cs=>ok2L ρ M cs=true∧B'=some (.var (ren2L ρ M cs))
 | .arr k es=>daS ρ M k es B'
 | .mp E=>maS E B'
theorem wk2B_ok {ρ:List Nat} {M:Nat} {B':Option Blk} {B:Blk} (h:wk2B ρ M B' B):ok2B ρ M B=true∧B'=some (ren2B ρ M B):=by
 cases B with
 | var cs=>exact h
 | arr k es=>unfold wk2B daS at h; exact h
 | mp E=>unfold wk2B maS at h; exact ⟨rfl,h⟩
def nilB:Blk→Prop
 | .arr _ es=>es=[]
 | .var _ | .mp _=>False
def wk2H (ρ:List Nat) (M:Nat) (H:Hp):List Nat→Hp→Prop
 | [],[]=>True
 | _::ks,none::r=>wk2H ρ M H ks r
 | κ::ks,some B::r=>(bif Nat.blt κ M then nthK H κ fun B'=>wk2B ρ M B' B else bif Nat.beq ((κ - M) % 2) 0 then nilB B else False)∧wk2H ρ M H ks r
 | _,_=>False
theorem wk2H_get {ρ:List Nat} {M:Nat} {H:Hp}:∀ {ks:List Nat} {H':Hp},wk2H ρ M H ks H'→ks.length=H'.length∧(∀ (i:Nat) B,H'[i]?=some (some B)→∃ κ,ks[i]?=some κ∧((κ < M∧ok2B ρ M B=true∧H[κ]?=some (some (ren2B ρ M B)))∨(M≤κ∧(κ - M) % 2=0∧∃ q,B=.arr q [])))
 | [],[],h=>⟨rfl,fun i B hB=>by simp at hB⟩
 | _::ks,none::r,h=>by
  obtain ⟨a,b⟩:=wk2H_get (ks:=ks) (H':=r) h
  refine ⟨by simp [a],fun i B hB=>?_⟩
  cases i with
  | zero=>simp at hB
  | succ i=>simpa using b i B (by simpa using hB)
 | κ::ks,some B0::r,h=>by
  obtain ⟨h1,h3⟩:=h
  obtain ⟨a,b⟩:=wk2H_get (ks:=ks) (H':=r) h3
  refine ⟨by simp [a],fun i B hB=>?_⟩
  cases i with
  | zero =>
   simp at hB; subst hB
   refine ⟨κ,rfl,?_⟩
   cases hb:Nat.blt κ M with
   | true =>
    rw [hb] at h1
    obtain ⟨B',hB',e⟩:=nthK_ok h1
    obtain ⟨ho,e⟩:=wk2B_ok e
    subst e
    exact .inl ⟨by simpa [Nat.blt_eq] using hb,ho,hB'⟩
   | false =>
    rw [hb] at h1
    simp only [cond_false] at h1
    cases hq:Nat.beq ((κ - M) % 2) 0 with
    | false=>rw [hq] at h1; exact h1.elim
    | true =>
    rw [hq] at h1
    refine .inr ⟨?_,Nat.eq_of_beq_eq_true hq,?_⟩
    ·rcases Nat.lt_or_ge κ M with h | h
     ·rw [show Nat.blt κ M=true by simpa [Nat.blt_eq] using h] at hb; cases hb
     ·exact h
    ·cases B0 with
     | var cs=>exact h1.elim
     | mp E=>exact h1.elim
     | arr k es=>simp only [cond_true,nilB] at h1; exact ⟨k,by rw [h1]⟩
  | succ i=>simpa using b i B (by simpa using hB)
 | [],_::_,h=>by cases h
 | _::_,[],h=>by cases h
theorem wk2T_get {ρ:List Nat} {M:Nat} {T:Tp}:∀ {T':Tp} (t:Nat),wk2T ρ M T T'→getT T' t=.un∨(ok2 ρ M (getT T' t)=true∧getT T t=ren2 ρ M (getT T' t))
 | [],t,_=>.inl rfl
 | (s,x)::r,t,h=>by
  simp only [getT]
  by_cases e:s=t
  ·subst e
   simp only [Nat.beq_refl,cond_true]
   exact .inr h.1
  ·have hb:Nat.beq s t=false:=by
    cases hq:Nat.beq s t with
    | false=>rfl
    | true=>exact absurd (Nat.eq_of_beq_eq_true hq) e
   simp only [hb,cond_false]
   exact wk2T_get t h.2
def fixed2 (M:Nat):Nat→List Nat→Nat→Bool
 | _,_,0=>true
 | i,κ::ks,F+1=>(Nat.beq κ i || (Nat.ble M κ && Nat.beq ((κ - M) % 2) 1)) && fixed2 M (i+1) ks F
 | _,[],_+1=>false
theorem fixed2_get {M:Nat}:∀ {F i:Nat} {ks:List Nat},fixed2 M i ks F=true→F≤ks.length∧∀ j,j < F→ks[j]?=some (i+j)∨∃ κ,ks[j]?=some κ∧M≤κ∧(κ - M) % 2=1
 | 0,i,ks,_=>⟨Nat.zero_le _,fun j h=>by omega⟩
 | F+1,i,[],h=>by simp [fixed2] at h
 | F+1,i,κ::ks,h=>by
  simp only [fixed2,Bool.and_eq_true,Bool.or_eq_true] at h
  obtain ⟨a,b⟩:=fixed2_get (F:=F) (i:=i+1) (ks:=ks) h.2
  refine ⟨by simp; omega,fun j hj=>?_⟩
  cases j with
  | zero =>
   rcases h.1 with h1 | ⟨h1,h2⟩
   ·left; simp [Nat.eq_of_beq_eq_true h1]
   ·right; exact ⟨κ,rfl,by simpa [Nat.ble_eq] using h1,Nat.eq_of_beq_eq_true h2⟩
  | succ j=>simpa [Nat.add_assoc,Nat.add_comm 1 j] using b j (by omega)
theorem Wk.mk2 [Inhabited DSt] {F : Nat} {T T' : Tp} {H H' : Hp} (ρ : List Nat) (M : Nat) (hM : H.length = M) (hFM : Nat.ble F M = true) (hn : ρ.Nodup) (hF : fixed2 M 0 ρ F = true) (hH : wk2H ρ M H ρ H') (hT : wk2T ρ M T T') : Wk F T H T' H' := by
  unfold Wk
  intro X mb wb N m a w hmb hr
  obtain rfl : m.length = M := hr.heap.len.trans hM
  obtain ⟨hlen, hblk⟩ := wk2H_get hH
  obtain ⟨hFl, hFg⟩ := fixed2_get hF
  have hFm : F ≤ m.length := by simpa [Nat.ble_eq] using hFM
  have hxk : Ext X mb wb (pick2 ρ m) w := by
    refine ⟨fun b hb hm => ?_, hr.ext.size, by simp [pick2]; omega, fun κ e hκ he => ?_, hr.ext.room, hr.ext.out⟩
    · obtain ⟨h1, h2⟩ := hr.ext.keep b hb hm
      exact ⟨h1, fun hmem => h2 (pick2_mem hmem)⟩
    · rcases hFg κ (by omega) with hk | ⟨κ', hk, h3, h4⟩
      · have hr' : refK ρ κ = κ := by simp [refK, List.getD, hk]
        obtain ⟨_, ⟨_, h2⟩ | ⟨h2, _⟩ | ⟨h2, _⟩⟩ := pick2_get he
        · rw [hr'] at h2
          exact hr.ext.same κ e hκ h2
        · rw [hr'] at h2; omega
        · rw [hr'] at h2; omega
      · obtain ⟨_, ⟨h1, _⟩ | ⟨h1, _, h2⟩ | ⟨_, h2⟩⟩ := pick2_get he
        · rw [refK_get hk] at h1; omega
        · rw [refK_get hk] at h2; omega
        · exact .inl h2
  refine ⟨pick2 ρ m, ⟨hxk, hr.size, fun t => ?_, ⟨by simp [pick2]; omega, fun κ B hB => ?_, fun κ κ' b h1 h2 => ?_, fun κ b h1 => ?_, hr.heap.old, hr.heap.tab.sub fun b hb => pick2_mem hb⟩, ?_⟩, fun b hb => pick2_mem hb⟩
  · rcases wk2T_get t hT with h | ⟨h1, h2⟩
    · rw [h]; exact .un _
    · have := hr.tmp t
      rw [h2] at this
      exact V.ren2 h1 this
  · obtain ⟨κ', hκ, ⟨hlt, hok, hB'⟩ | ⟨hge, hev, q, rfl⟩⟩ := hblk κ B hB
    · have hpk : (pick2 ρ m)[κ]? = some ((m[κ']?).getD .dead) := by
        simp [pick2, hκ, show Nat.blt κ' m.length = true by simpa [Nat.blt_eq] using hlt]
      rcases hr.heap.blk κ' _ hB' with ⟨b, vs, el, h1, h2, h3⟩ | ⟨h0, q, hq⟩ | ⟨E, b, es, ck, e1, e2, e3, e4⟩
      rotate_left
      rotate_left
      · refine .inr (.inr ⟨E, b, es, ck, ?_, by rw [hpk, e2]; rfl, e3, e4.mono fun b hb => ⟨⟨hb.1, hb.2.1, fun h => hb.2.2 (pick2_mem h)⟩, rfl⟩⟩)
        cases B <;> simp [ren2B] at e1
        rw [e1]
      · exact .inl ⟨b, vs, el, by rw [hpk, h1]; rfl, h2, BRel.ren2 hok h3⟩
      · refine .inr (.inl ⟨by rw [hpk, h0]; rfl, ?_⟩)
        cases B with
        | var cs => simp [ren2B] at hq
        | mp E => simp [ren2B] at hq
        | arr k es =>
          simp only [ren2B, Blk.arr.injEq] at hq
          cases es with
          | nil => exact ⟨k, rfl⟩
          | cons e es => simp [ren2L] at hq
    · refine .inr (.inl ⟨?_, q, rfl⟩)
      have hb : Nat.blt κ' m.length = false := by
        cases hq : Nat.blt κ' m.length with
        | false => rfl
        | true => have : κ' < m.length := by simpa [Nat.blt_eq] using hq
                  omega
      simp [pick2, hκ, hb, hev]
  · obtain ⟨l1, h3⟩ := pick2_blk h1
    obtain ⟨l2, h4⟩ := pick2_blk h2
    have hinj := hr.heap.inj _ _ _ h3 h4
    simp only [refK, List.getD, List.getElem?_eq_getElem l1, List.getElem?_eq_getElem l2, Option.getD_some] at hinj
    exact (List.getElem_inj hn).1 hinj
  · exact hr.heap.lt _ _ (pick2_blk h1).2
  · obtain ⟨ms, e, nd, hd⟩ := hr.defers
    exact ⟨ms, e, nd, fun D hD => ⟨⟨(hd D hD).1.1, fun hmem => (hd D hD).1.2 (pick2_mem hmem)⟩, (hd D hD).2⟩⟩
end Go.Abs
