/- Reslicing, arithmetic, comparisons: the abstract operations and why they are sound. No condition. -/
import Derived.Test.YthandbiapckgkaaZA9
import Derived.Laws.StructEq
import Derived.Laws.Slices
import Derived.Lib.ConvBytes
import Derived.Laws.BytesArg
namespace Go.Abs
variable {P:Program} {X:Nat→Prop} {m m':Mp} {H:Hp} {w w':World}
/- Reslicing. -/
@[irreducible] def slS (lo hi:Int) (n:Nat) (k:Nat→Nat→Prop):Prop:=∃ l h:Nat,lo=(l:Int)∧hi=(h:Int)∧l≤h∧h≤n∧k l h
theorem slS_mk {lo hi:Int} {n:Nat} {k:Nat→Nat→Prop} (l h:Nat) (e1:lo=(l:Int)) (e2:hi=(h:Int)) (h1:l≤h) (h2:h≤n) (hk:k l h):slS lo hi n k:=by unfold slS; exact ⟨l,h,e1,e2,h1,h2,hk⟩
@[irreducible] def orS (A B:Prop):Prop:=A∨B
theorem orS_r {A B:Prop} (h:B):orS A B:=by unfold orS; exact .inr h
@[irreducible] def szS (es:List D) (n:Nat) (k:Prop):Prop:=(∀ e,e ∈ es→e.cells.length=n)∧k
def slP (esz:Nat) (x:AV) (lo hi:Option AV) (H:Hp) (k:AV→Hp→Prop):Prop :=
 match x with
 | .nsl=>match lo,hi with
  | none,some (.d (.i _ b))=>slS 0 b 0 fun _ _=>k .nsl H
  | none,none=>k .nsl H
  | _,_=>False
 | .d (.ls es)=>szS es esz <| match lo,hi with
  | none,some (.d (.i _ b))=>slS 0 b es.length fun _ h=>lsS (es.take h) fun es'=>k (.d (.ls es')) H
  | some (.d (.i _ a)),none=>slS a es.length es.length fun l _=>lsS (es.drop l) fun es'=>k (.d (.ls es')) H
  | some (.d (.i _ a)),some (.d (.i _ b))=>slS a b es.length fun l h=>lsS ((es.take h).drop l) fun es'=>k (.d (.ls es')) H
  | none,none=>k (.d (.ls es)) H
  | _,_=>False
 | .sl κ q off n=>bif Nat.beq q esz then nthK H κ fun B=>match B with
   | some (.arr q' es)=>bif Nat.beq q' q then match lo,hi with
     | none,some (.d (.i _ b))=>slS 0 b n fun _ h=>orS (k (.sl κ q off h) H) (bif Nat.beq off 0 then reS (es.take h) h fun es' n'=>setK H κ (some (.arr q es')) fun H'=>k (.sl κ q 0 n') H' else False)
     | none,none=>k (.sl κ q off n) H
     | _,_=>False
    else False
   | _=>False
  else False
 | _=>False
theorem HRel.trunc {κ q j:Nat} {es:List AV} (hh:HRel X m H w) (hB:H[κ]?=some (some (.arr q es))):HRel X m (H.set κ (some (.arr q (es.take j)))) w:=by
 refine ⟨by simp [hh.len],fun κ' B hκ=>?_,hh.inj,hh.lt,hh.old,hh.tab⟩
 rw [List.getElem?_set] at hκ
 by_cases he:κ=κ'
 ·subst he
  have hlt:κ < H.length:=(List.getElem?_eq_some_iff.1 hB).1
  simp [hlt] at hκ
  subst hκ
  rcases hh.blk2 κ _ hB with ⟨b,vs,el,hb,hg,hR⟩ | ⟨hm,q0,hB0⟩
  ·refine .inl ⟨b,vs,el,hb,hg,fun e he=>hR.1 e (List.mem_of_mem_take he),fun a e l c ha hc=>?_⟩
   rw [List.getElem?_take] at ha
   split at ha
   ·exact hR.2 a e l c ha hc
   ·cases ha
  ·refine .inr (.inl ⟨hm,q,?_⟩)
   simp only [Blk.arr.injEq] at hB0
   rw [hB0.2]; simp
 ·simp [he] at hκ
  exact hh.blk κ' B hκ
theorem Rd.slice {I:Nat→Prop} {bk off cap q:Nat} {es:List D} {vs:Nat→Nat→Value} (hI:I bk) (hk:∀ e,e ∈ es→e.cells.length=q)
  (hw:∀ (j:Nat) e (l:Nat) c,es[j]?=some e→e.cells[l]?=some c→w.cell? ⟨bk,off+j * q+l,none⟩=some (vs j l)∧(vs j l).oneCell'=true)
  (hv:∀ (j:Nat) e (l:Nat) c,es[j]?=some e→e.cells[l]?=some c→Rd I w (vs j l) c) {a b:Nat} (hab:a≤b) (hb:b≤es.length) (hcap:b - a≤cap) (o:Nat) (ho:o=off+a * q∨b - a=0) :
  Rd I w (.slice (some ⟨bk,o,none⟩) (b - a) cap) (.ls ((es.take b).drop a)):=by
 have hlen:((es.take b).drop a).length=b - a:=by simp; omega
 have hget:∀ (j:Nat) e,((es.take b).drop a)[j]?=some e→es[a+j]?=some e∧a+j < b:=by
  intro j e he
  rw [List.getElem?_drop,List.getElem?_take] at he
  split at he
  ·exact ⟨he,by assumption⟩
  ·cases he
 rw [← hlen]
 refine .ls bk o cap q _ (fun j l=>vs (a+j) l) hI (by omega) (fun e he=>hk e (List.mem_of_mem_take (List.mem_of_mem_drop he))) (fun j e l c he hc=>?_) (fun j e l c he hc=>hv (a+j) e l c (hget j e he).1 hc)
 obtain ⟨h1,h2⟩:=hget j e he
 rcases ho with rfl | h0
 ·have:=hw (a+j) e l c h1 hc
  rw [Nat.add_mul,← Nat.add_assoc] at this
  exact this
 ·omega
theorem sl_run {t:TypeId} {li le:LI} {i ie:TypeInfo} {u ue:TypeDesc} {z ze:Value} (hl:LIs P t li i u z) (hsl:li.sl=true) (hle:LIs P li.elem le ie ue ze) (base:Option Addr) (len cap:Nat) (lo hi:Option Value) :
  (Instr.sliceAt t (.slice base len cap) lo hi none).run P w=((Instr.sliceBounds true len cap lo hi none).run P w).andThen fun (l,h,mm) w=>.ok (.slice (if mm=l then base else base.map (·.add (l * ie.size))) (h - l) (mm - l)) w:=by
 have hu:=hl.slice hsl
 subst hu
 simp [Instr.sliceAt,Instr.slice,underlying,hl.und,sizeOf,typeInfo,hle.info]
theorem sl_ok {t:TypeId} {li le:LI} {i ie:TypeInfo} {u ue:TypeDesc} {z ze:Value} (hl:LIs P t li i u z) (hsl:li.sl=true) (hle:LIs P li.elem le ie ue ze) {x:AV} {v:Value} {lo hi:Option AV} {vlo vhi:Option Value}
  {k:AV→Hp→Prop} (hv:V X m w v x) (hlo:∀ a,lo=some a→∃ va,vlo=some va∧V X m w va a) (hlon:lo=none→vlo=none) (hhi:∀ a,hi=some a→∃ va,vhi=some va∧V X m w va a) (hhin:hi=none→vhi=none)
  (hh:HRel X m H w) (h:slP le.size x lo hi H k):VOK P X m w (Instr.sliceAt t v vlo vhi none) k:=by
 have hint:∀ {va:Value} {kk:IntKind} {n:Int},V X m w va (.d (.i kk n))→va=.int kk n:=by intro va kk n h; cases h with | d _ _ hr=>cases hr; rfl
 have bound:∀ (kk:IntKind) (j y:Nat) (code:BoundsCode),j≤y→(Instr.sliceBound (.int kk (j:Int)) y code).run P w=.ok j w:=by
  intro kk j y code hj
  simp [Instr.sliceBound,asIntOf,hj]
 have bound0:∀ (kk:IntKind) (y:Nat) (code:BoundsCode),(Instr.sliceBound (.int kk 0) y code).run P w=.ok 0 w:=fun kk y code=>by simpa using bound kk 0 y code (Nat.zero_le _)
 unfold slP at h
 simp only [lsS_iff] at h
 cases hv with
 | nsl =>
  dsimp only at h
  split at h
  ·rename_i b
   obtain ⟨va,rfl,hva⟩:=hhi _ rfl
   rw [hlon rfl]
   obtain rfl:=hint hva
   unfold slS at h
   obtain ⟨l,hh',e1,rfl,h1,h2,h⟩:=h
   have:hh'=0:=by omega
   subst this
   refine ⟨.slice none 0 0,w,m,.nsl,H,?_,.nsl,hh,.refl _ _ _,h⟩
   rw [sl_run hl hsl hle]
   simp [Instr.sliceBounds,bound0]
  ·rw [hlon rfl,hhin rfl]
   refine ⟨.slice none 0 0,w,m,.nsl,H,?_,.nsl,hh,.refl _ _ _,h⟩
   rw [sl_run hl hsl hle]
   simp [Instr.sliceBounds]
  ·exact h.elim
 | d _ x hr =>
  cases hr with
  | nil =>
   dsimp only at h
   unfold szS at h
   replace h:=h.2
   split at h
   ·obtain ⟨va,rfl,hva⟩:=hhi _ rfl
    rw [hlon rfl]
    obtain rfl:=hint hva
    unfold slS at h
    obtain ⟨l,hh',e1,rfl,h1,h2,h⟩:=h
    have:hh'=0:=by simpa using h2
    subst this
    refine ⟨.slice none 0 0,w,m,.d (.ls []),H,?_,.d _ _ .nil,hh,.refl _ _ _,by simpa using h⟩
    rw [sl_run hl hsl hle]
    simp [Instr.sliceBounds,bound0]
   ·obtain ⟨va,rfl,hva⟩:=hlo _ rfl
    rw [hhin rfl]
    obtain rfl:=hint hva
    unfold slS at h
    obtain ⟨l,hh',rfl,e1,h1,h2,h⟩:=h
    have:l=0:=by simp at h2; omega
    subst this
    refine ⟨.slice none 0 0,w,m,.d (.ls []),H,?_,.d _ _ .nil,hh,.refl _ _ _,by simpa using h⟩
    rw [sl_run hl hsl hle]
    simp [Instr.sliceBounds,bound0]
   ·obtain ⟨va,rfl,hva⟩:=hlo _ rfl
    obtain ⟨vb,rfl,hvb⟩:=hhi _ rfl
    obtain rfl:=hint hva
    obtain rfl:=hint hvb
    unfold slS at h
    obtain ⟨l,hh',rfl,rfl,h1,h2,h⟩:=h
    have h3:hh'=0:=by simpa using h2
    have h4:l=0:=by omega
    subst h3; subst h4
    refine ⟨.slice none 0 0,w,m,.d (.ls []),H,?_,.d _ _ .nil,hh,.refl _ _ _,by simpa using h⟩
    rw [sl_run hl hsl hle]
    simp [Instr.sliceBounds,bound0]
   ·rw [hlon rfl,hhin rfl]
    refine ⟨.slice none 0 0,w,m,.d (.ls []),H,?_,.d _ _ .nil,hh,.refl _ _ _,h⟩
    rw [sl_run hl hsl hle]
    simp [Instr.sliceBounds]
   ·exact h.elim
  | lz a =>
   dsimp only at h
   unfold szS at h
   replace h:=h.2
   split at h
   ·obtain ⟨va,rfl,hva⟩:=hhi _ rfl
    rw [hlon rfl]
    obtain rfl:=hint hva
    unfold slS at h
    obtain ⟨l,hh',e1,rfl,h1,h2,h⟩:=h
    have:hh'=0:=by simpa using h2
    subst this
    refine ⟨.slice (some a) 0 0,w,m,.d (.ls []),H,?_,.d _ _ (.lz a),hh,.refl _ _ _,by simpa using h⟩
    rw [sl_run hl hsl hle]
    simp [Instr.sliceBounds,bound0]
   ·obtain ⟨va,rfl,hva⟩:=hlo _ rfl
    rw [hhin rfl]
    obtain rfl:=hint hva
    unfold slS at h
    obtain ⟨l,hh',rfl,e1,h1,h2,h⟩:=h
    have:l=0:=by simp at h2; omega
    subst this
    refine ⟨.slice (some a) 0 0,w,m,.d (.ls []),H,?_,.d _ _ (.lz a),hh,.refl _ _ _,by simpa using h⟩
    rw [sl_run hl hsl hle]
    simp [Instr.sliceBounds,bound0]
   ·obtain ⟨va,rfl,hva⟩:=hlo _ rfl
    obtain ⟨vb,rfl,hvb⟩:=hhi _ rfl
    obtain rfl:=hint hva
    obtain rfl:=hint hvb
    unfold slS at h
    obtain ⟨l,hh',rfl,rfl,h1,h2,h⟩:=h
    have h3:hh'=0:=by simpa using h2
    have h4:l=0:=by omega
    subst h3; subst h4
    refine ⟨.slice (some a) 0 0,w,m,.d (.ls []),H,?_,.d _ _ (.lz a),hh,.refl _ _ _,by simpa using h⟩
    rw [sl_run hl hsl hle]
    simp [Instr.sliceBounds,bound0]
   ·rw [hlon rfl,hhin rfl]
    refine ⟨.slice (some a) 0 0,w,m,.d (.ls []),H,?_,.d _ _ (.lz a),hh,.refl _ _ _,h⟩
    rw [sl_run hl hsl hle]
    simp [Instr.sliceBounds]
   ·exact h.elim
  | ls bk off cap q es vs hI hc hk hw hvs =>
   dsimp only at h
   unfold szS at h
   obtain ⟨hqs,h⟩:=h
   have mk:∀ (a b:Nat),a≤b→b≤es.length→((Instr.sliceBounds true es.length cap vlo vhi none).run P w=.ok (a,b,cap) w)→k (.d (.ls ((es.take b).drop a))) H →
     VOK P X m w (Instr.sliceAt t (.slice (some ⟨bk,off,none⟩) es.length cap) vlo vhi none) k:=by
    intro a b hab hb hrun hk'
    by_cases hca:cap=a
    ·refine ⟨.slice (some ⟨bk,off,none⟩) (b - a) (cap - a),w,m,_,H,?_,.d _ _ (Rd.slice hI hk hw hvs hab hb (by omega) off (.inr (by omega))),hh,.refl _ _ _,hk'⟩
     rw [sl_run hl hsl hle,hrun]
     simp [hca]
    ·refine ⟨.slice (some ⟨bk,off+a * ie.size,none⟩) (b - a) (cap - a),w,m,_,H,?_,.d _ _ (Rd.slice hI hk hw hvs hab hb (by omega) _ ?_),hh,.refl _ _ _,hk'⟩
     ·rw [sl_run hl hsl hle,hrun]
      simp [hca,add_addr]
     ·by_cases hes:b - a=0
      ·exact .inr hes
      ·left
       have hne:es≠[]:=fun e=>by subst e; simp at hb; omega
       obtain ⟨e,he⟩:=List.exists_mem_of_ne_nil es hne
       rw [← hk e he,hqs e he,hle.size]
   split at h
   ·obtain ⟨va,rfl,hva⟩:=hhi _ rfl
    rw [hlon rfl]
    rw [hlon rfl] at mk
    obtain rfl:=hint hva
    unfold slS at h
    obtain ⟨l,b,e1,rfl,h1,h2,h⟩:=h
    exact mk 0 b (Nat.zero_le _) h2 (by simp [Instr.sliceBounds,bound _ b cap _ (by omega)]) (by simpa using h)
   ·obtain ⟨va,rfl,hva⟩:=hlo _ rfl
    rw [hhin rfl]
    rw [hhin rfl] at mk
    obtain rfl:=hint hva
    unfold slS at h
    obtain ⟨l,b,rfl,e1,h1,h2,h⟩:=h
    exact mk l es.length (by omega) (Nat.le_refl _) (by simp [Instr.sliceBounds,bound _ l es.length _ (by omega)]) (by simpa using h)
   ·obtain ⟨va,rfl,hva⟩:=hlo _ rfl
    obtain ⟨vb,rfl,hvb⟩:=hhi _ rfl
    obtain rfl:=hint hva
    obtain rfl:=hint hvb
    unfold slS at h
    obtain ⟨l,b,rfl,rfl,h1,h2,h⟩:=h
    exact mk l b h1 h2 (by simp [Instr.sliceBounds,bound _ b cap _ (by omega),bound _ l b _ h1]) h
   ·rw [hlon rfl,hhin rfl]
    rw [hlon rfl,hhin rfl] at mk
    exact mk 0 es.length (Nat.zero_le _) (Nat.le_refl _) (by simp [Instr.sliceBounds]) (by simpa using h)
   ·exact h.elim
  | _=>exact h.elim
 | sl _ κ q off n hκ h1 hb0 hn0 =>
  dsimp only at h
  cases hq:Nat.beq q le.size with
  | false=>rw [hq] at h; exact h.elim
  | true =>
  rw [hq] at h
  obtain rfl:=Nat.eq_of_beq_eq_true hq
  simp only [cond_true] at h
  replace h:=nthK_ok h
  obtain ⟨B,hB,h⟩:=h
  cases B with
  | none=>exact h.elim
  | some B =>
  cases B with
  | var cs=>exact h.elim
  | mp E=>exact h.elim
  | arr q' es =>
  dsimp only at h
  cases hq2:Nat.beq q' le.size with
  | false=>rw [hq2] at h; exact h.elim
  | true =>
  rw [hq2] at h
  obtain rfl:=Nat.eq_of_beq_eq_true hq2
  simp only [cond_true] at h
  split at h
  ·obtain ⟨va,rfl,hva⟩:=hhi _ rfl
   rw [hlon rfl]
   obtain rfl:=hint hva
   unfold slS at h
   obtain ⟨l,j,e1,rfl,h1',h2,h⟩:=h
   have hrun:∀ kk:IntKind,∃ v',(Instr.sliceAt t v none (some (.int kk (j:Int))) none).run P w=.ok v' w∧V X m w v' (.sl κ le.size off j):=by
    intro kk
    rcases hh.blk2 κ _ hB with ⟨b,vs,el,hb,hg,hR⟩ | ⟨hm,q0,hB0⟩
    ·obtain ⟨cap,e,hn,hroom⟩:=hb0 b hb
     subst e
     refine ⟨.slice (some ⟨b,off * le.size,none⟩) j cap,?_,.sl _ _ _ _ _ hκ rfl (fun b' hb'=>?_) (fun hb'=>by rw [hb] at hb'; simp at hb')⟩
     ·rw [sl_run hl hsl hle]
      simp [Instr.sliceBounds,bound _ j cap _ (by omega),add_addr]
     ·rw [hb] at hb'
      simp at hb'
      subst hb'
      exact ⟨cap,rfl,by omega,hroom⟩
    ·obtain ⟨e,h0⟩:=hn0 hm
     subst e
     have:j=0:=by omega
     subst this
     refine ⟨.slice none 0 0,?_,.sl _ _ _ _ _ hκ rfl (fun b' hb'=>by rw [hm] at hb'; simp at hb') (fun _=>⟨rfl,rfl⟩)⟩
     rw [sl_run hl hsl hle]
     simp [Instr.sliceBounds,bound0]
   obtain ⟨v',hrun',hV⟩:=hrun _
   unfold orS at h
   rcases h with h | h
   ·exact ⟨v',w,m,_,H,hrun',hV,hh,.refl _ _ _,h⟩
   ·cases ho:Nat.beq off 0 with
    | false=>rw [ho] at h; exact h.elim
    | true =>
    rw [ho] at h
    obtain rfl:=Nat.eq_of_beq_eq_true ho
    simp only [cond_true,reS_iff] at h
    exact ⟨v',w,m,_,_,hrun',hV,hh.trunc hB,.refl _ _ _,(setK_ok h).2⟩
  ·rw [hlon rfl,hhin rfl]
   have hrun:(Instr.sliceAt t v none none none).run P w=.ok v w:=by
    rcases hh.blk2 κ _ hB with ⟨b,vs,el,hb,hg,hR⟩ | ⟨hm,q0,hB0⟩
    ·obtain ⟨cap,e,hn,hroom⟩:=hb0 b hb
     subst e
     rw [sl_run hl hsl hle]
     simp [Instr.sliceBounds,add_addr]
    ·obtain ⟨e,h0⟩:=hn0 hm
     subst e
     rw [sl_run hl hsl hle]
     simp [Instr.sliceBounds]
   exact ⟨v,w,m,_,H,hrun,.sl v κ le.size off n hκ h1 hb0 hn0,hh,.refl _ _ _,h⟩
  ·exact h.elim
 | _=>exact h.elim
def slP2 (esz:Nat) (x:AV) (lo hi:Option AV) (H:Hp) (k:AV→Hp→Prop):Prop :=
 match lo with
 | some a=>match x with
  | .sl κ q off n=>orS (match a,hi with
    | .d (.i _ l),none=>bif Nat.beq q esz then nthK H κ fun B=>match B with
      | some (.arr _ _)=>slS l n n fun l _=>k (.vw κ q (off+l) (n - l)) H
      | _=>False
     else False
    | _,_=>False) (frz 8 (.sl κ q off n) H fun d H'=>slP esz (.d d) (some a) hi H' k)
  | x=>slP esz x (some a) hi H k
 | none=>slP esz x none hi H k
theorem sl2_ok {t:TypeId} {li le:LI} {i ie:TypeInfo} {u ue:TypeDesc} {z ze:Value} (hl:LIs P t li i u z) (hsl:li.sl=true) (hle:LIs P li.elem le ie ue ze) {x:AV} {v:Value} {lo hi:Option AV} {vlo vhi:Option Value}
  {k:AV→Hp→Prop} (hv:V X m w v x) (hlo:∀ a,lo=some a→∃ va,vlo=some va∧V X m w va a) (hlon:lo=none→vlo=none) (hhi:∀ a,hi=some a→∃ va,vhi=some va∧V X m w va a) (hhin:hi=none→vhi=none)
  (hh:HRel X m H w) (h:slP2 le.size x lo hi H k):VOK P X m w (Instr.sliceAt t v vlo vhi none) k:=by
 cases lo with
 | none=>exact sl_ok hl hsl hle hv hlo hlon hhi hhin hh h
 | some a =>
  cases x with
  | sl κ q off n =>
   unfold slP2 at h
   dsimp only at h
   unfold orS at h
   rcases h with h | h
   ·split at h
    ·rename_i kk l
     cases hq:Nat.beq q le.size with
     | false=>rw [hq] at h; exact h.elim
     | true =>
     rw [hq] at h
     obtain rfl:=Nat.eq_of_beq_eq_true hq
     simp only [cond_true] at h
     replace h:=nthK_ok h
     obtain ⟨B,hB,h⟩:=h
     split at h
     ·rename_i q0 es
      unfold slS at h
      obtain ⟨j,n',rfl,e2,h1,h2,h⟩:=h
      obtain ⟨va,rfl,hva⟩:=hlo _ rfl
      rw [hhin rfl]
      have hi:va=.int kk (j:Int):=by cases hva with | d _ _ hr=>cases hr; rfl
      subst hi
      have bound:∀ (y:Nat) (code:BoundsCode),j≤y→(Instr.sliceBound (.int kk (j:Int)) y code).run P w=.ok j w:=by
       intro y code hj
       simp [Instr.sliceBound,asIntOf,hj]
      have hn':n'=n:=by omega
      cases hv with
      | sl _ _ _ _ _ hκ h1' hb0 hn0 =>
      rcases hh.blk2 κ _ hB with ⟨b,vs,el,hb,hg,hR⟩ | ⟨hm,q1,hB0⟩
      ·obtain ⟨cap,e,hn,hroom⟩:=hb0 b hb
       subst e
       by_cases hca:cap=j
       ·refine ⟨.slice (some ⟨b,off * le.size,none⟩) (n - j) (cap - j),w,m,_,H,?_,.vw _ _ _ _ _ hκ (fun b' hb'=>?_) (fun hb'=>by rw [hb] at hb'; simp at hb'),hh,.refl _ _ _,h⟩
        ·rw [sl_run hl hsl hle]
         simp [Instr.sliceBounds,bound n _ (by omega),hca]
        ·rw [hb] at hb'
         simp at hb'
         subst hb'
         exact ⟨_,_,rfl,by omega,.inl (by omega)⟩
       ·refine ⟨.slice (some ⟨b,off * le.size+j * ie.size,none⟩) (n - j) (cap - j),w,m,_,H,?_,.vw _ _ _ _ _ hκ (fun b' hb'=>?_) (fun hb'=>by rw [hb] at hb'; simp at hb'),hh,.refl _ _ _,h⟩
        ·rw [sl_run hl hsl hle]
         simp [Instr.sliceBounds,bound n _ (by omega),hca,add_addr]
        ·rw [hb] at hb'
         simp at hb'
         subst hb'
         exact ⟨_,_,rfl,by omega,.inr (by rw [Nat.add_mul,hle.size])⟩
      ·obtain ⟨e,h0⟩:=hn0 hm
       subst e
       have hj0:j=0:=by omega
       subst hj0
       refine ⟨.slice none 0 0,w,m,_,H,?_,.vw _ _ _ _ _ hκ (fun b' hb'=>by rw [hm] at hb'; simp at hb') (fun _=>⟨rfl,by omega⟩),hh,.refl _ _ _,h⟩
       rw [sl_run hl hsl hle]
       have hb':(Instr.sliceBound (.int kk 0) 0 .sliceB).run P w=.ok 0 w:=by simpa using bound 0 .sliceB (Nat.le_refl _)
       simp [Instr.sliceBounds,hb']
     ·exact h.elim
    ·exact h.elim
   obtain ⟨m',H',d,hh',hx,hr,hk⟩:=frz_ok 8 _ H _ m v h hv hh
   have:=sl_ok hl hsl hle (.d _ _ hr) (fun a e=>let ⟨va,e1,e2⟩:=hlo a e; ⟨va,e1,e2.ext hx⟩) hlon (fun a e=>let ⟨va,e1,e2⟩:=hhi a e; ⟨va,e1,e2.ext hx⟩) hhin hh' hk
   obtain ⟨v',w',m2,av,H2,h1,h2,h3,h4,h5⟩:=this
   exact ⟨v',w',m2,av,H2,h1,h2,h3,hx.trans h4,h5⟩
  | _=>exact sl_ok hl hsl hle hv hlo hlon hhi hhin hh h
/- Arithmetic. -/
@[irreducible] def arS (k:IntKind) (n:Int) (K:Int→Prop):Prop:=∃ r,r=k.wrap n∧K r
theorem arS_iff {k:IntKind} {n:Int} {K:Int→Prop}:arS k n K↔K (k.wrap n):=by unfold arS; exact ⟨fun ⟨_,e,h⟩=>e ▸ h,fun h=>⟨_,rfl,h⟩⟩
theorem arS_raw {k:IntKind} {n:Int} {K:Int→Prop} (hk:K (k.wrap n)):arS k n K:=arS_iff.2 hk
@[irreducible] def neS (y:Int) (K:Prop):Prop:=y≠0∧K
def bitK (kk:IntKind) (r:BitVec kk.bits):Int:=kk.wrap r.toNat
def biI (op:BinOp) (kk:IntKind) (x y:Int) (k:D→Prop):Prop :=
 match op with
 | .add=>arS kk (x+y) fun n=>k (.i kk n)
 | .sub=>arS kk (x - y) fun n=>k (.i kk n)
 | .mul=>arS kk (x * y) fun n=>k (.i kk n)
 | .quo=>neS y (arS kk (x.tdiv y) fun n=>k (.i kk n))
 | .rem=>neS y (k (.i kk (x.tmod y)))
 | .and=>k (.i kk (bitK kk (BitVec.ofInt kk.bits x &&& BitVec.ofInt kk.bits y)))
 | .or=>k (.i kk (bitK kk (BitVec.ofInt kk.bits x ||| BitVec.ofInt kk.bits y)))
 | .xor=>k (.i kk (bitK kk (BitVec.ofInt kk.bits x ^^^ BitVec.ofInt kk.bits y)))
 | .eql=>k (.b (x == y))
 | .neq=>k (.b (x != y))
 | .lss=>k (.b (decide (x < y)))
 | .leq=>k (.b (decide (x≤y)))
 | .gtr=>k (.b (decide (x > y)))
 | .geq=>k (.b (decide (x≥y)))
 | _=>False
theorem biI_ok {op:BinOp} {kk:IntKind} {x y:Int} {k:D→Prop} (t:TypeId) (h:biI op kk x y k):∃ v d,(binOp op t (.int kk x) (.int kk y)).run P w=.ok v w∧(∀ I,Rd I w v d)∧k d:=by
 cases op with
 | add=>simp only [biI,arS_iff] at h; exact ⟨_,_,by simp [binOp,Op.intArith],fun I=>.i _ _,h⟩
 | sub=>simp only [biI,arS_iff] at h; exact ⟨_,_,by simp [binOp,Op.intArith],fun I=>.i _ _,h⟩
 | mul=>simp only [biI,arS_iff] at h; exact ⟨_,_,by simp [binOp,Op.intArith],fun I=>.i _ _,h⟩
 | quo =>
  simp only [biI,arS_iff,neS] at h
  obtain ⟨h0,h⟩:=h
  exact ⟨_,_,by simp [binOp,Op.intDiv,h0],fun I=>.i _ _,h⟩
 | rem =>
  simp only [biI,neS] at h
  obtain ⟨h0,h⟩:=h
  exact ⟨_,_,by simp [binOp,Op.intDiv,h0],fun I=>.i _ _,h⟩
 | and=>exact ⟨_,_,by simp [binOp]; rfl,fun I=>.i _ _,h⟩
 | or=>exact ⟨_,_,by simp [binOp]; rfl,fun I=>.i _ _,h⟩
 | xor=>exact ⟨_,_,by simp [binOp]; rfl,fun I=>.i _ _,h⟩
 | eql=>exact ⟨_,_,by simp [binOp,Op.intCmp],fun I=>.b _,h⟩
 | neq=>exact ⟨_,_,by simp [binOp,Op.intCmp],fun I=>.b _,h⟩
 | lss=>exact ⟨_,_,by simp [binOp,Op.intCmp],fun I=>.b _,h⟩
 | leq=>exact ⟨_,_,by simp [binOp,Op.intCmp],fun I=>.b _,h⟩
 | gtr=>exact ⟨_,_,by simp [binOp,Op.intCmp],fun I=>.b _,h⟩
 | geq=>exact ⟨_,_,by simp [binOp,Op.intCmp],fun I=>.b _,h⟩
 | _=>exact h.elim
/- Shifts: the count is not negative. -/
@[irreducible] def nnS (y:Int) (K:Prop):Prop:=0≤y∧K
def shlK (kk:IntKind) (x y:Int):Int:=kk.wrap (x * 2 ^ (min y.toNat kk.bits))
def shrK (kk:IntKind) (x y:Int):Int:=x.fdiv (2 ^ (min y.toNat kk.bits))
def isSh (op:BinOp):Bool:=match op with
 | .shl | .shr=>true
 | _=>false
def shI (op:BinOp) (kk:IntKind) (x y:Int) (k:D→Prop):Prop :=
 match op with
 | .shl=>nnS y (k (.i kk (shlK kk x y)))
 | .shr=>nnS y (k (.i kk (shrK kk x y)))
 | _=>False
theorem shI_ok {op:BinOp} {kk ky:IntKind} {x y:Int} {k:D→Prop} (t:TypeId) (h:shI op kk x y k):∃ v d,(binOp op t (.int kk x) (.int ky y)).run P w=.ok v w∧(∀ I,Rd I w v d)∧k d:=by
 cases op with
 | shl =>
  simp only [shI,nnS] at h
  obtain ⟨h0,h⟩:=h
  have h0':¬ y < 0:=by omega
  exact ⟨_,_,by simp [binOp,Op.shift,h0']; rfl,fun I=>.i _ _,h⟩
 | shr =>
  simp only [shI,nnS] at h
  obtain ⟨h0,h⟩:=h
  have h0':¬ y < 0:=by omega
  exact ⟨_,_,by simp [binOp,Op.shift,h0']; rfl,fun I=>.i _ _,h⟩
 | _=>exact h.elim
/- Arrays whose elements are one cell each: a block of elements,and its address. -/
def alA (le li:LI) (H:Hp) (k:AV→Hp→Prop):Prop:=bif Nat.beq le.size 1 && li.zero.all AV.plain then reS li.zero 0 fun es' _=>pushK H (.arr 1 es') fun n H'=>k (.pe n 1 0 0) H' else False
theorem ofV_cells (v:Value):(ofV v).cells=[ofV v]:=by
 unfold ofV
 split <;> rfl
theorem BRel.zeroA {vs:Array Value} {zs:List AV} (hz:zs=vs.toList.map ofV) (hp:zs.all AV.plain=true):BRel X m w vs (.arr 1 zs):=by
 subst hz
 have hc:∀ e,e ∈ vs.toList.map ofV→e.cells=[e]:=by
  intro e he
  obtain ⟨v,_,rfl⟩:=List.mem_map.1 he
  exact ofV_cells v
 refine ⟨fun e he=>by rw [hc e he]; rfl,fun j e l c he hcl=>?_⟩
 have hm:=List.mem_of_getElem? he
 rw [hc e hm] at hcl
 cases l with
 | succ l=>simp at hcl
 | zero =>
  simp only [List.getElem?_cons_zero,Option.some.injEq] at hcl
  subst hcl
  rw [List.getElem?_map,Option.map_eq_some_iff] at he
  obtain ⟨v,hv,rfl⟩:=he
  refine ⟨v,by simpa using hv,C.ofV ?_⟩
  rw [List.all_eq_true] at hp
  exact hp _ hm
theorem alA_ok {t:TypeId} {li le:LI} {i:TypeInfo} {u:TypeDesc} {z:Value} (hl:LIs P t li i u z) {k:AV→Hp→Prop} (hh:HRel X m H w) (h:alA le li H k) :
  VOK P X m w (Instr.alloc t true (.tuple #[])) k:=by
 unfold alA at h
 cases hz:Nat.beq le.size 1 && li.zero.all AV.plain with
 | false=>rw [hz] at h; exact h.elim
 | true =>
  rw [hz] at h
  simp only [cond_true,reS_iff] at h
  simp only [Bool.and_eq_true] at hz
  refine ⟨.pointer (some ⟨w.heap.size,0,none⟩),w.alloc (.cells z.cells t),m++[.blk w.heap.size],.pe H.length 1 0 0,_,?_,?_,hh.alloc (B:=.arr 1 li.zero) (BRel.zeroA hl.zer hz.2),Ext.alloc _ hh,pushK_ok h⟩
  ·simp [Instr.alloc,zeroValue,typeInfo,hl.info,hl.zero,newVar,newRow]
  ·refine .pe _ _ _ _ _ (by simp [hh.len]) rfl (fun b hb=>?_) (fun hb=>?_)
   ·rw [← hh.len] at hb; simp at hb; subst hb; rfl
   ·rw [← hh.len] at hb; simp at hb
@[irreducible] def lenS (a b:Nat) (K:Prop):Prop:=a=b∧K
def blA (le li:LI) (parts:List (Nat × AV)) (k:AV→Prop):Prop :=
 bif li.zero.all AV.plain then buK ((List.range li.alen).map fun i=>(i * le.size,le.size)) li.zero parts fun cs=>mkAg cs k else False
theorem blA_ok {t:TypeId} {li le:LI} {i ie:TypeInfo} {u ue:TypeDesc} {z ze:Value} (hl:LIs P t li i u z) (har:li.ar=true) (hle:LIs P li.elem le ie ue ze) {k:AV→Hp→Prop} (hh:HRel X m H w) (ρ:Operand→Value) (σ:Operand→AV) (hρ:∀ x,V X m w (ρ x) (σ x))
  (parts:Array (Nat × Operand)) (h:blA le li (parts.toList.map fun p=>(p.1,σ p.2)) fun a=>k a H) :
  VOK P X m w (Instr.build t (parts.map fun (i,x)=>(i,ρ x))) k:=by
 have hu:=hl.arr har
 subst hu
 unfold blA at h
 cases hz:li.zero.all AV.plain with
 | false=>rw [hz] at h; exact h.elim
 | true =>
  rw [hz] at h
  have hsz:ie.size=le.size:=hle.size.symm
  have hpl:∀ (i:Nat) f,((List.range li.alen).map fun i=>(i * le.size,le.size))[i]?=some f→(fun j:Nat=>some (j * le.size,le.size)) i=some f:=fun i f h=>by
   rw [List.getElem?_map,Option.map_eq_some_iff] at h
   obtain ⟨a,ha,rfl⟩:=h
   obtain ⟨h1,h2⟩:=List.getElem?_eq_some_iff.1 ha
   simp at h2
   subst h2
   rfl
  have hcr:CR X m w z.cells li.zero:=⟨by rw [hl.zer]; simp,BRel.zero hl.zer hz⟩
  obtain ⟨cells',cs',e,hc',hk⟩:=bu_ok hpl ρ σ hρ parts.toList hcr h
  obtain ⟨av,hV,hka⟩:=V.of_mkAg hk hc'.1 hc'.2
  refine ⟨_,w,m,av,H,?_,hV,hh,.refl _ _ _,hka⟩
  simp [Instr.build,zeroValue,typeInfo,hl.info,hl.zero,underlying,hl.und,sizeOf,hle.info,hsz,e]
def iaA (le li:LI) (x ix:AV) (H:Hp) (k:AV→Prop):Prop :=
 match ix with
 | .d (.i _ n)=>match x with
  | .pe κ 1 0 0=>bif Nat.beq le.size 1 then nthK H κ fun B=>match B with
    | some _=>ixS li.alen n fun j=>k (.pe κ 1 (0+j) 0)
    | none=>False
   else False
  | .pt κ off=>bif Nat.beq le.size 1 then nthK H κ fun B=>match B with
    | some _=>ixS li.alen n fun j=>k (.pt κ (off+j))
    | none=>False
   else False
  | _=>False
 | _=>False
theorem iaA_ok {t:TypeId} {li le:LI} {i ie:TypeInfo} {u ue:TypeDesc} {z ze:Value} (hl:LIs P t li i u z) (har:li.ar=true) (hle:LIs P li.elem le ie ue ze) {x ix:AV} {v vi:Value} {k:AV→Hp→Prop}
  (hv:V X m w v x) (hi:V X m w vi ix) (hh:HRel X m H w) (h:iaA le li x ix H fun a=>k a H):VOK P X m w (Instr.indexAt t v vi) k:=by
 have hu:=hl.arr har
 subst hu
 unfold iaA at h
 cases hi with
 | d _ ix hr =>
  cases hr with
  | i kk n =>
   dsimp only at h
   split at h
   ·rename_i κ
    cases hq:Nat.beq le.size 1 with
    | false=>rw [hq] at h; exact h.elim
    | true =>
     rw [hq] at h
     have hq:=Nat.eq_of_beq_eq_true hq
     replace h:=nthK_ok h
     obtain ⟨B,hB,h⟩:=h
     cases B with
     | none=>exact h.elim
     | some B =>
     dsimp only at h
     unfold ixS at h
     obtain ⟨j,rfl,hj,h⟩:=h
     cases hv with
     | pe _ _ _ _ _ hκ h1 hb0 h0 =>
      obtain ⟨b,hb⟩:=hh.blk_of hB h0
      have e:=hb0 b hb
      subst e
      refine ⟨.pointer (some ⟨b,j,none⟩),w,m,_,H,?_,.pe _ _ _ _ _ hκ rfl (fun b' hb'=>by rw [hb] at hb'; simp at hb'; subst hb'; simp) h0,hh,.refl _ _ _,h⟩
      have hqi:ie.size=1:=by rw [← hle.size,hq]
      simp [Instr.indexAt,asIntOf,underlying,hl.und,hj,sizeOf,typeInfo,hle.info,add_addr,hqi,Instr.sureAddr]
   ·rename_i κ off
    cases hq:Nat.beq le.size 1 with
    | false=>rw [hq] at h; exact h.elim
    | true =>
     rw [hq] at h
     have hq:=Nat.eq_of_beq_eq_true hq
     replace h:=nthK_ok h
     obtain ⟨B,hB,h⟩:=h
     cases B with
     | none=>exact h.elim
     | some B =>
     dsimp only at h
     unfold ixS at h
     obtain ⟨j,rfl,hj,h⟩:=h
     cases hv with
     | pt _ _ _ hκ h1 hb0 h0 =>
      obtain ⟨b,hb⟩:=hh.blk_of hB h0
      have e:=hb0 b hb
      subst e
      refine ⟨.pointer (some ⟨b,off+j,none⟩),w,m,_,H,?_,.pt _ _ _ hκ rfl (fun b' hb'=>by rw [hb] at hb'; simp at hb'; subst hb'; simp) h0,hh,.refl _ _ _,h⟩
      have hqi:ie.size=1:=by rw [← hle.size,hq]
      simp [Instr.indexAt,asIntOf,underlying,hl.und,hj,sizeOf,typeInfo,hle.info,add_addr,hqi,Instr.sureAddr]
   ·exact h.elim
  | _=>exact h.elim
 | _=>exact h.elim
def slA (le li:LI) (x:AV) (lo hi:Option AV) (H:Hp) (k:AV→Hp→Prop):Prop :=
 match lo,hi,x with
 | none,some (.d (.i _ b)),.pe κ 1 0 0=>bif Nat.beq le.size 1 then nthK H κ fun B=>match B with
   | some (.arr 1 es)=>slS 0 b li.alen fun _ h=>lenS es.length li.alen (reS (es.take h) h fun es' n'=>setK H κ (some (.arr 1 es')) fun H'=>k (.sl κ 1 0 n') H')
   | _=>False
  else False
 | _,_,_=>False
theorem BRel.size {vs:Array Value} {es:List AV} (h:BRel X m w vs (.arr 1 es)):es.length≤vs.size:=by
 rcases Nat.eq_zero_or_pos es.length with h0 | h0
 ·omega
 ·have hlt:es.length - 1 < es.length:=by omega
  have he:es[es.length - 1]?=some es[es.length - 1]:=by simp [hlt]
  have hc:=h.1 _ (List.mem_of_getElem? he)
  obtain ⟨c,hc'⟩:∃ c,(es[es.length - 1]).cells[0]?=some c:=by
   cases hq:(es[es.length - 1]).cells with
   | nil=>rw [hq] at hc; simp at hc
   | cons c r=>exact ⟨c,rfl⟩
  obtain ⟨v,hv,_⟩:=h.2 _ _ 0 c he hc'
  have:=(Array.getElem?_eq_some_iff.1 hv).1
  omega
theorem slA_ok {t:TypeId} {li le:LI} {i ie:TypeInfo} {u ue:TypeDesc} {z ze:Value} (hl:LIs P t li i u z) (har:li.ar=true) (hle:LIs P li.elem le ie ue ze) {x:AV} {v:Value} {lo hi:Option AV} {vlo vhi:Option Value}
  {k:AV→Hp→Prop} (hv:V X m w v x) (hlon:lo=none→vlo=none) (hhi:∀ a,hi=some a→∃ va,vhi=some va∧V X m w va a)
  (hh:HRel X m H w) (h:slA le li x lo hi H k):VOK P X m w (Instr.sliceAt t v vlo vhi none) k:=by
 have hu:=hl.arr har
 subst hu
 unfold slA at h
 split at h
 ·rename_i kk n κ
  rw [hlon rfl]
  obtain ⟨va,rfl,hva⟩:=hhi _ rfl
  have hvn:va=.int kk n:=by cases hva with | d _ _ hr=>cases hr; rfl
  subst hvn
  cases hq:Nat.beq le.size 1 with
  | false=>rw [hq] at h; exact h.elim
  | true =>
   rw [hq] at h
   have hq:=Nat.eq_of_beq_eq_true hq
   replace h:=nthK_ok h
   obtain ⟨B,hB,h⟩:=h
   split at h
   ·rename_i es
    unfold slS at h
    obtain ⟨l,j,_,rfl,h1',h2,h⟩:=h
    unfold lenS at h
    obtain ⟨hlen,h⟩:=h
    simp only [reS_iff] at h
    cases hv with
    | pe _ _ _ _ _ hκ h1 hb0 h0 =>
     obtain ⟨b,hb⟩:=hh.blk_of hB h0
     have e:=hb0 b hb
     subst e
     obtain ⟨vs,el,hg,hR⟩:=hh.get hb hB
     have hsz:=hR.size
     refine ⟨.slice (some ⟨b,0,none⟩) j li.alen,w,m,_,_,?_,.sl _ _ _ _ _ hκ rfl (fun b' hb'=>?_) (fun hb'=>absurd hb' h0),hh.trunc hB,.refl _ _ _,(setK_ok h).2⟩
     ·have hqi:ie.size=1:=by rw [← hle.size,hq]
      have hj:((j:Nat):Int)≤(li.alen:Nat):=by omega
      simp [Instr.sliceAt,Instr.sliceBounds,Instr.sliceBound,asIntOf,underlying,hl.und,sizeOf,typeInfo,hle.info,add_addr,hqi,Instr.sureAddr,hj]
      try omega
     ·rw [hb] at hb'
      simp at hb'
      subst hb'
      exact ⟨li.alen,by simp,h2,vs,el,(0,0),hg,by simp; omega⟩
   ·exact h.elim
 ·exact h.elim
/- Strings. -/
@[irreducible] def catX (a b:ByteArray) (K:ByteArray→Prop):Prop:=a.size+b.size≤9223372036854775807∧K (a++b)
@[irreducible] def ixX (b:ByteArray) (n:Int) (K:Int→Prop):Prop:=0≤n∧∃ c:UInt8,b[n.toNat]?=some c∧K (c.toNat:Int)
@[irreducible] def slX (b:ByteArray) (lo hi:Int) (K:ByteArray→Prop):Prop:=∃ l h:Nat,lo=(l:Int)∧hi=(h:Int)∧l≤h∧h≤b.size∧K (b.extract l h)
def bytD (b:ByteArray):List D:=b.data.toList.map fun c=>D.i .u8 (c.toNat:Int)
def ixT (li:LI) (x ix:AV) (k:AV→Prop):Prop :=
 match x,ix with
 | .d (.s b),.d (.i _ n)=>bif Nat.beq li.kd 2 then ixX b n fun c=>k (.d (.i .u8 c)) else False
 | _,_=>False
theorem ixT_ok {t:TypeId} {li:LI} {i:TypeInfo} {u:TypeDesc} {z:Value} (hl:LIs P t li i u z) {x ix:AV} {v vi:Value} {k:AV→Hp→Prop}
  (hv:V X m w v x) (hi:V X m w vi ix) (hh:HRel X m H w) (h:ixT li x ix fun a=>k a H):VOK P X m w (Instr.index t v vi) k:=by
 unfold ixT at h
 split at h
 ·rename_i b kk n
  have e1:v=.string b:=by cases hv with | d _ _ hr=>cases hr; rfl
  have e2:vi=.int kk n:=by cases hi with | d _ _ hr=>cases hr; rfl
  subst e1 e2
  cases hs:Nat.beq li.kd 2 with
  | false=>rw [hs] at h; exact h.elim
  | true =>
   rw [hs] at h
   have hkd:=(Nat.eq_of_beq_eq_true hs).symm.trans hl.kd
   have hu:u=.string:=by cases u <;> simp [kdOf] at hkd ⊢
   subst hu
   simp only [cond_true] at h
   unfold ixX at h
   obtain ⟨h0,c,hc,h⟩:=h
   exact .pure (by simp [Instr.index,asIntOf,underlying,hl.und,h0,hc]) (.d _ _ (.i .u8 c.toNat)) hh h
 ·exact h.elim
def slT (li:LI) (x:AV) (lo hi:Option AV) (k:AV→Prop):Prop :=
 match x with
 | .d (.s b)=>bif Nat.beq li.kd 2 then match lo,hi with
   | none,some (.d (.i _ n))=>slX b 0 n fun r=>k (.d (.s r))
   | some (.d (.i _ n)),none=>slX b n b.size fun r=>k (.d (.s r))
   | some (.d (.i _ a)),some (.d (.i _ n))=>slX b a n fun r=>k (.d (.s r))
   | _,_=>False
  else False
 | _=>False
theorem slT_ok {t:TypeId} {li:LI} {i:TypeInfo} {u:TypeDesc} {z:Value} (hl:LIs P t li i u z) {x:AV} {v:Value} {lo hi:Option AV} {vlo vhi:Option Value}
  {k:AV→Hp→Prop} (hv:V X m w v x) (hlo:∀ a,lo=some a→∃ va,vlo=some va∧V X m w va a) (hlon:lo=none→vlo=none) (hhi:∀ a,hi=some a→∃ va,vhi=some va∧V X m w va a) (hhin:hi=none→vhi=none)
  (hh:HRel X m H w) (h:slT li x lo hi fun a=>k a H):VOK P X m w (Instr.sliceAt t v vlo vhi none) k:=by
 have bound:∀ (kk:IntKind) (j y:Nat) (code:BoundsCode),j≤y→(Instr.sliceBound (.int kk (j:Int)) y code).run P w=.ok j w:=by
  intro kk j y code hj
  simp [Instr.sliceBound,asIntOf,hj]
 have hint:∀ {va:Value} {kk:IntKind} {n:Int},V X m w va (.d (.i kk n))→va=.int kk n:=by
  intro va kk n h
  cases h with | d _ _ hr=>cases hr; rfl
 unfold slT at h
 split at h
 ·rename_i b
  have e1:v=.string b:=by cases hv with | d _ _ hr=>cases hr; rfl
  subst e1
  cases hs:Nat.beq li.kd 2 with
  | false=>rw [hs] at h; exact h.elim
  | true =>
   rw [hs] at h
   have hkd:=(Nat.eq_of_beq_eq_true hs).symm.trans hl.kd
   have hu:u=.string:=by cases u <;> simp [kdOf] at hkd ⊢
   subst hu
   simp only [cond_true] at h
   split at h
   ·obtain ⟨va,rfl,hva⟩:=hhi _ rfl
    obtain rfl:=hint hva
    rw [hlon rfl]
    unfold slX at h
    obtain ⟨l,j,e0,rfl,h1,h2,h⟩:=h
    have:l=0:=by omega
    subst this
    exact .pure (by simp [Instr.sliceAt,Instr.slice,Instr.sliceBounds,underlying,hl.und,bound _ j b.size _ h2]) (.d _ _ (.s _)) hh h
   ·obtain ⟨va,rfl,hva⟩:=hlo _ rfl
    obtain rfl:=hint hva
    rw [hhin rfl]
    unfold slX at h
    obtain ⟨l,j,rfl,e0,h1,h2,h⟩:=h
    have:j=b.size:=by omega
    subst this
    exact .pure (by simp [Instr.sliceAt,Instr.slice,Instr.sliceBounds,underlying,hl.und,bound _ l b.size _ h1]) (.d _ _ (.s _)) hh h
   ·obtain ⟨va,rfl,hva⟩:=hlo _ rfl
    obtain rfl:=hint hva
    obtain ⟨vb,rfl,hvb⟩:=hhi _ rfl
    obtain rfl:=hint hvb
    unfold slX at h
    obtain ⟨l,j,rfl,rfl,h1,h2,h⟩:=h
    exact .pure (by simp [Instr.sliceAt,Instr.slice,Instr.sliceBounds,underlying,hl.und,bound _ j b.size _ h2,bound _ l j _ h1]) (.d _ _ (.s _)) hh h
   ·exact h.elim
 ·exact h.elim
def cvT (li le:LI) (x:AV) (k:AV→Prop):Prop :=
 match x with
 | .d (.s b)=>bif li.sl then (match le.ik with
   | some .u8=>lsS (bytD b) fun es=>k (.d (.ls es))
   | _=>False) else False
 | _=>False
theorem cvT_ok {s t:TypeId} {us:TypeDesc} {li le:LI} {i ie:TypeInfo} {u ue:TypeDesc} {z ze:Value} (hs:P.underlying s=some us) (hl:LIs P t li i u z) (hle:LIs P li.elem le ie ue ze) {x:AV} {v:Value}
  {k:AV→Hp→Prop} (hv:V X m w v x) (hh:HRel X m H w) (h:cvT li le x fun a=>k a H):VOK P X m w (Go.convert s t v) k:=by
 unfold cvT at h
 split at h
 ·rename_i b
  have e1:v=.string b:=by cases hv with | d _ _ hr=>cases hr; rfl
  subst e1
  cases hsl:li.sl with
  | false=>rw [hsl] at h; exact h.elim
  | true =>
   rw [hsl] at h
   have hu:=hl.slice hsl
   subst hu
   simp only [cond_true] at h
   split at h
   ·rename_i hk
    have hik:=hle.ik
    rw [hk] at hik
    have hue:ue=.int .u8:=by
     cases ue <;> simp [ikOf] at hik
     rw [hik]
    subst hue
    rw [lsS_iff] at h
    have hx:Ext X m w m (Lib.bytesWorld w li.elem b):=by
     refine ⟨fun j hj hm=>⟨Lib.bytesWorld_at_old w _ _ j hj,hm⟩,by rw [Lib.bytesWorld_size]; omega,Nat.le_refl _,fun _ _ _ h=>.inr h,?_,?_⟩
     ·rintro j n ⟨vs,el,fz,e,hn⟩
      have hlt:=(Array.getElem?_eq_some_iff.1 e).1
      exact ⟨vs,el,fz,(Lib.bytesWorld_at_old w _ _ j hlt).trans e,hn⟩
     ·exact ⟨rfl,rfl,rfl⟩
    have hlen:(bytD b).length=b.size:=by simp [bytD]
    refine ⟨_,_,m,.d (.ls (bytD b)),H,Lib.run_convert_string_bytes w s t li.elem b hs hl.und hle.und,?_,hh.ext_same hx fun κ b' hb=>Lib.bytesWorld_at_old w _ _ b' (hh.lt κ b' hb).1,hx,h⟩
    refine .d _ _ ?_
    rw [← hlen]
    refine .ls w.heap.size 0 _ 1 (bytD b) (fun j _=>.int .u8 (b.data.toList.getD j 0).toNat) ⟨by rw [Lib.bytesWorld_size]; omega,fun hX=>Nat.lt_irrefl _ (hh.old _ hX),fun hm=>?_⟩ ?_ ?_ ?_ ?_
    ·obtain ⟨κ,hκ⟩:=get_of_mem hm
     exact Nat.lt_irrefl _ (hh.lt κ _ hκ).1
    ·rw [hlen]; exact Go.Abs.le_grownCap w b.size 0 li.elem
    ·intro e he
     obtain ⟨c,_,rfl⟩:=List.mem_map.1 he
     rfl
    ·intro j e l c he hc
     have hj:j < b.size:=by rw [← hlen]; exact (List.getElem?_eq_some_iff.1 he).1
     have hl0:l=0:=by
      have:=List.mem_of_getElem? he
      obtain ⟨q,_,rfl⟩:=List.mem_map.1 this
      cases l with
      | zero=>rfl
      | succ l=>simp [D.cells] at hc
     subst hl0
     refine ⟨?_,rfl⟩
     have:=Lib.bytesWorld_cell w li.elem b j hj
     simpa using this
    ·intro j e l c he hc
     have hm:=he
     unfold bytD at hm
     rw [List.getElem?_map,Option.map_eq_some_iff] at hm
     obtain ⟨q,hq,rfl⟩:=hm
     cases l with
     | succ l=>simp [D.cells] at hc
     | zero =>
      simp only [D.cells,List.getElem?_cons_zero,Option.some.injEq] at hc
      subst hc
      have:b.data.toList.getD j 0=q:=by simp [List.getD,hq]
      rw [this]
      exact .i _ _
   ·exact h.elim
 ·exact h.elim
@[irreducible] def cvSS (es:List D) (K:ByteArray→Prop):Prop:=∃ ns:List Int,es=ns.map (D.i .u8)∧K (strOfNums ns)
def cvS (le li:LI) (x:AV) (k:AV→Prop):Prop :=
 match x with
 | .d (.ls es)=>match le.ik with
  | some .u8=>bif Nat.beq li.kd 2 then cvSS es fun b=>k (.d (.s b)) else False
  | _=>False
 | _=>False
theorem cvS_ok {s t:TypeId} {ls li le:LI} {is i ie:TypeInfo} {us u ue:TypeDesc} {zs z ze:Value} (hs:LIs P s ls is us zs) (hsl:ls.sl=true) (hl:LIs P t li i u z) (hle:LIs P ls.elem le ie ue ze) {x:AV} {v:Value}
  {k:AV→Hp→Prop} (hv:V X m w v x) (hh:HRel X m H w) (h:cvS le li x fun a=>k a H):VOK P X m w (Go.convert s t v) k:=by
 have hu:=hs.slice hsl
 subst hu
 unfold cvS at h
 split at h
 ·rename_i es
  split at h
  ·rename_i hk
   have hik:=hle.ik
   rw [hk] at hik
   have hue:ue=.int .u8:=by
    cases ue <;> simp [ikOf] at hik
    rw [hik]
   subst hue
   cases hq:Nat.beq li.kd 2 with
   | false=>rw [hq] at h; exact h.elim
   | true =>
    rw [hq] at h
    have hkd:=(Nat.eq_of_beq_eq_true hq).symm.trans hl.kd
    have hu:u=.string:=by cases u <;> simp [kdOf] at hkd ⊢
    subst hu
    simp only [cond_true] at h
    unfold cvSS at h
    obtain ⟨ns,he,h⟩:=h
    have e0:strOfNums []=ByteArray.empty:=rfl
    have hrun:(Go.convert s t v).run P w=.ok (.string (strOfNums ns)) w:=by
     cases hv with
     | d _ _ hr =>
      generalize hes:D.ls es=d at hr
      cases hr with
      | nil =>
       cases hes
       have:ns=[]:=by cases ns with | nil=>rfl | cons a r=>simp at he
       subst this
       rw [e0]
       exact run_convert_bytes_nil w s ls.elem hs.und hle.und 0 0 t hl.und
      | lz a =>
       cases hes
       have:ns=[]:=by cases ns with | nil=>rfl | cons a r=>simp at he
       subst this
       rw [run_convert_bytes_string w s t ls.elem _ 0 0 hs.und hle.und hl.und,run_bytesToString w a 0 0 [] (by simp [loadCells,loadCellsFrom])]
       rfl
      | ls bk off cap q es' vs hI hc hk' hvs hrd =>
       cases hes
       subst he
       rw [List.length_map]
       refine run_convert_bytes_arg w s ls.elem hs.und hle.und bk off ns.length cap ns rfl (fun j hj=>?_) t hl.und
       have hj':(ns.map (D.i .u8))[j]?=some (.i .u8 ns[j]):=by simp [hj]
       have hq1:q=1:=(hk' _ (List.mem_of_getElem? hj')).symm
       subst hq1
       obtain ⟨h1,h2⟩:=hvs j _ 0 _ hj' rfl
       have h3:=hrd j _ 0 _ hj' rfl
       rw [Nat.mul_one,Nat.add_zero] at h1
       rw [h1]
       have:vs j 0=.int .u8 ns[j]:=by
        generalize vs j 0=u at h3
        cases h3; rfl
       rw [this]
       simp [List.getD,hj]
      | _=>cases hes
    exact .pure hrun (.d _ _ (.s _)) hh h
  ·exact h.elim
 ·exact h.elim
end Go.Abs
