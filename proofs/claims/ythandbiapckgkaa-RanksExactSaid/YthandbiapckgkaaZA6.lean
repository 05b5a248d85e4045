/- Addresses of fields and elements, slices made by the frame, append: the abstract operations and why they are sound. No condition. -/
import Derived.Test.YthandbiapckgkaaZA5
namespace Go.Abs
variable {P:Program} {X:Nat→Prop} {m m':Mp} {H:Hp} {w w':World}
def faP (li:LI) (f:Nat) (x:AV) (H:Hp) (k:AV→Prop):Prop :=
 nthK li.flds f fun p=>bif Nat.beq p.2 0 then False else match x with
  | .pt κ o=>nthK H κ fun B=>match B with
   | some _=>k (.pt κ (o+p.1))
   | none=>False
  | .pe κ q j o=>nthK H κ fun B=>match B with
   | some _=>k (.pe κ q j (o+p.1))
   | none=>False
  | .d (.ro cs)=>dropK cs p.1 fun r=>k (.d (.ro r))
  | _=>False
theorem HRel.blk_of {κ:Nat} {B:Blk} (hh:HRel X m H w) (hB:H[κ]?=some (some B)) (h0:m[κ]?≠some .nil):∃ b,m[κ]?=some (.blk b):=by
 rcases hh.blk κ B hB with ⟨b,_,_,hb,_⟩ | ⟨hb,_⟩ | ⟨_,b,_,_,_,hb,_⟩
 ·exact ⟨b,hb⟩
 ·exact absurd hb h0
 ·exact ⟨b,hb⟩
theorem Rd.drop {I:Nat→Prop} {bk off:Nat} {cs:List D} (h:Rd I w (.pointer (some ⟨bk,off,none⟩)) (.ro cs)) (n:Nat):Rd I w (.pointer (some ⟨bk,off+n,none⟩)) (.ro (cs.drop n)):=by
 cases h with
 | ro _ _ _ vs hI hw hvs =>
  refine .ro bk (off+n) _ (fun l=>vs (n+l)) hI (fun l c hc=>?_) (fun l c hc=>?_)
  ·rw [List.getElem?_drop] at hc
   have:=hw (n+l) c hc
   rwa [← Nat.add_assoc] at this
  ·rw [List.getElem?_drop] at hc
   exact hvs (n+l) c hc
theorem fa_ok {t:TypeId} {li:LI} {i:TypeInfo} {u:TypeDesc} {z:Value} (hl:LIs P t li i u z) {f:Nat} {x:AV} {v:Value} {k:AV→Hp→Prop} (hv:V X m w v x) (hh:HRel X m H w)
  (h:faP li f x H fun a=>k a H):VOK P X m w (Instr.fieldAt t v f) k:=by
 replace h:=nthK_ok h
 obtain ⟨p,hp,h⟩:=h
 cases hz:Nat.beq p.2 0 with
 | true=>rw [hz] at h; exact h.elim
 | false =>
 rw [hz] at h
 replace hz:p.2≠0:=fun e=>by rw [e] at hz; cases hz
 simp only [cond_false] at h
 have hfl:=hl.flds
 cases u with
 | struct fs =>
  simp only [fldsOf] at hfl
  rw [hfl,List.getElem?_map,Option.map_eq_some_iff] at hp
  obtain ⟨fd,hfd,rfl⟩:=hp
  dsimp only at hz h
  have hinfo:∃ fi,P.info? fd.type=some fi∧fi.size≠0:=by
   unfold Program.cellsOf at hz
   cases hq:P.info? fd.type with
   | none=>simp [hq] at hz
   | some fi=>exact ⟨fi,rfl,by simpa [hq] using hz⟩
  obtain ⟨fi,hfi,hne⟩:=hinfo
  have hfd':fs[f]?=some fd:=by simpa using hfd
  have hrun:∀ b o,(Instr.fieldAt t (.pointer (some ⟨b,o,none⟩)) f).run P w=.ok (.pointer (some ⟨b,o+fd.offset,none⟩)) w:=by
   intro b o
   simp [Instr.fieldAt,underlying,hl.und,hfd',Instr.sureAddr,fieldPlace,sizeOf,typeInfo,hfi,hne,add_addr]
  cases hv with
  | pt _ κ o hκ h1 hpt h0 =>
   replace h:=nthK_ok h
   obtain ⟨B,hB,h⟩:=h
   cases B with
   | none=>exact h.elim
   | some B =>
   obtain ⟨b,hb⟩:=hh.blk_of hB h0
   have:=hpt b hb
   subst this
   exact ⟨_,w,m,_,H,hrun b o,.pt _ _ _ hκ rfl (fun b' hb'=>by rw [hb] at hb'; simp at hb'; subst hb'; rfl) h0,hh,.refl _ _ _,h⟩
  | pe _ κ q j o hκ h1 hpt h0 =>
   replace h:=nthK_ok h
   obtain ⟨B,hB,h⟩:=h
   cases B with
   | none=>exact h.elim
   | some B =>
   obtain ⟨b,hb⟩:=hh.blk_of hB h0
   have:=hpt b hb
   subst this
   exact ⟨_,w,m,_,H,hrun b _,.pe _ _ _ _ _ hκ rfl (fun b' hb'=>by rw [hb] at hb'; simp at hb'; subst hb'; simp [Nat.add_assoc]) h0,hh,.refl _ _ _,h⟩
  | d _ x hr =>
   cases hr with
   | ro bk off cs vs hI hw hvs =>
    obtain ⟨_,h⟩:=dropK_ok h
    exact ⟨_,w,m,_,H,hrun bk off,.d _ _ (Rd.drop (.ro bk off cs vs hI hw hvs) _),hh,.refl _ _ _,h⟩
   | _=>exact h.elim
  | _=>exact h.elim
 | _ =>
  simp only [fldsOf] at hfl
  simp [hfl] at hp
@[irreducible] def ixP (es:List D) (n:Int) (k:D→Prop):Prop:=∃ (j:Nat) (e:D),n=(j:Int)∧es[j]?=some e∧k e
theorem ixP_mk {es:List D} {n:Int} {k:D→Prop} (j:Nat) (e:D) (hn:n=(j:Int)) (he:es[j]?=some e) (hk:k e):ixP es n k:=by unfold ixP; exact ⟨j,e,hn,he,hk⟩
@[irreducible] def ixS (len:Nat) (n:Int) (k:Nat→Prop):Prop:=∃ j:Nat,n=(j:Int)∧j < len∧k j
theorem ixS_mk {len:Nat} {n:Int} {k:Nat→Prop} (j:Nat) (hn:n=(j:Int)) (hj:j < len) (hk:k j):ixS len n k:=by unfold ixS; exact ⟨j,hn,hj,hk⟩
def iaP (esz:Nat) (x ix:AV) (H:Hp) (k:AV→Prop):Prop :=
 match ix with
 | .d (.i _ n)=>match x with
  | .d (.ls es)=>ixP es n fun e=>bif Nat.beq e.cells.length esz then k (.d (.ro e.cells)) else False
  | .sl κ q off len=>bif Nat.beq q esz then nthK H κ fun B=>match B with
    | some _=>ixS len n fun j=>k (.pe κ q (off+j) 0)
    | none=>False
   else False
  | _=>False
 | _=>False
theorem ia_ok {t:TypeId} {li le:LI} {i ie:TypeInfo} {u ue:TypeDesc} {z ze:Value} (hl:LIs P t li i u z) (hsl:li.sl=true) (hle:LIs P li.elem le ie ue ze) {x ix:AV} {v vi:Value} {k:AV→Hp→Prop}
  (hv:V X m w v x) (hi:V X m w vi ix) (hh:HRel X m H w) (h:iaP le.size x ix H fun a=>k a H):VOK P X m w (Instr.indexAt t v vi) k:=by
 have hu:=hl.slice hsl
 subst hu
 unfold iaP at h
 cases hi with
 | d _ ix hr =>
  cases hr with
  | i kk n =>
   dsimp only at h
   cases hv with
   | d _ x hr =>
    cases hr with
    | ls bk off cap q es vs hI hc hk hw hvs =>
     dsimp only at h
     unfold ixP at h
     obtain ⟨j,e,rfl,he,h⟩:=h
     cases hq:Nat.beq e.cells.length le.size with
     | false=>rw [hq] at h; exact h.elim
     | true =>
      rw [hq] at h
      have hq:=Nat.eq_of_beq_eq_true hq
      have hjl:j < es.length:=(List.getElem?_eq_some_iff.1 he).1
      have hkk:q=ie.size:=by rw [← hk e (List.mem_of_getElem? he),hq,hle.size]
      refine ⟨_,w,m,_,H,?_,.d _ _ (.ro bk (off+j * q) e.cells (fun l=>vs j l) hI (fun l c hc=>hw j e l c he hc) (fun l c hc=>hvs j e l c he hc)),hh,.refl _ _ _,h⟩
      simp [Instr.indexAt,asIntOf,underlying,hl.und,hjl,sizeOf,typeInfo,hle.info,add_addr,hkk]
    | nil =>
     dsimp only at h
     unfold ixP at h
     obtain ⟨j,e,rfl,he,h⟩:=h
     simp at he
    | lz a =>
     dsimp only at h
     unfold ixP at h
     obtain ⟨j,e,rfl,he,h⟩:=h
     simp at he
    | _=>exact h.elim
   | sl _ κ q off len hκ h1 hb0 hn0 =>
    dsimp only at h
    cases hq:Nat.beq q le.size with
    | false=>rw [hq] at h; exact h.elim
    | true =>
     rw [hq] at h
     have hq:=Nat.eq_of_beq_eq_true hq
     replace h:=nthK_ok h
     obtain ⟨B,hB,h⟩:=h
     cases B with
     | none=>exact h.elim
     | some B =>
     dsimp only at h
     unfold ixS at h
     obtain ⟨j,rfl,hj,h⟩:=h
     have h0:m[κ]?≠some .nil:=fun hn=>by have:=(hn0 hn).2; omega
     obtain ⟨b,hb⟩:=hh.blk_of hB h0
     obtain ⟨cap,e,hn,hroom⟩:=hb0 b hb
     subst e
     refine ⟨.pointer (some ⟨b,(off+j) * q,none⟩),w,m,_,H,?_,.pe _ _ _ _ _ hκ rfl (fun b' hb'=>by rw [hb] at hb'; simp at hb'; subst hb'; rfl) h0,hh,.refl _ _ _,h⟩
     have hqi:q=ie.size:=by rw [hq,hle.size]
     simp [Instr.indexAt,asIntOf,underlying,hl.und,hj,sizeOf,typeInfo,hle.info,add_addr,hqi,Nat.add_mul]
   | _=>exact h.elim
  | _=>exact h.elim
 | _=>exact h.elim
end Go.Abs
