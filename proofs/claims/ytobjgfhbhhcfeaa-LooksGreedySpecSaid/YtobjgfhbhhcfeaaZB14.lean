/- A loop over an iterator whose rounds may panic, by its model. No condition. -/
import Derived.Test.YtobjgfhbhhcfeaaZB13
namespace Go.Abs
variable {P:Program} {X:Nat→Prop} {m m':Mp} {H:Hp} {w w':World}
def foldP {σ ρ α:Type} (f:α→σ→Option (Option (σ ⊕ ρ))):List α→σ→Option (Option (σ ⊕ ρ))
 | [],s=>some (some (.inl s))
 | a::l,s=>(f a s).bind fun q=>match q with
  | none=>some none
  | some (.inl s')=>foldP f l s'
  | some (.inr r)=>some (some (.inr r))
theorem foldP_split {σ ρ α:Type} {f:α→σ→Option (Option (σ ⊕ ρ))}:∀ {l:List α} {s:σ} {q:Option (σ ⊕ ρ)},foldP f l s=some q →
  (∃ s1,∃ ss:Nat→σ,q=some (.inl s1)∧ss 0=s∧ss l.length=s1∧∀ (i:Nat) a,l[i]?=some a→f a (ss i)=some (some (.inl (ss (i+1))))) ∨
  (∃ e k,∃ ss:Nat→σ,q=e∧(∀ s,e≠some (.inl s))∧k < l.length∧ss 0=s∧(∀ (i:Nat) a,i < k→l[i]?=some a→f a (ss i)=some (some (.inl (ss (i+1)))))∧∀ a,l[k]?=some a→f a (ss k)=some e)
 | [],s,q,h=>by
  simp only [foldP,Option.some.injEq] at h
  exact .inl ⟨s,fun _=>s,h.symm,rfl,rfl,fun i a ha=>by simp at ha⟩
 | a::l,s,q,h=>by
  obtain ⟨q1,h1,h2⟩:=bS h
  have fin:∀ e,q1=e→(∀ s,e≠some (.inl s))→q=e→(∃ e k,∃ ss:Nat→σ,q=e∧(∀ s,e≠some (.inl s))∧k < (a::l).length∧ss 0=s∧(∀ (i:Nat) a',i < k→(a::l)[i]?=some a'→f a' (ss i)=some (some (.inl (ss (i+1)))))∧∀ a',(a::l)[k]?=some a'→f a' (ss k)=some e):=by
   intro e e1 e2 e3
   refine ⟨e,0,fun _=>s,e3,e2,by simp,rfl,fun i b hi=>absurd hi (Nat.not_lt_zero i),fun b hb=>?_⟩
   simp at hb; subst hb; rw [h1,e1]
  cases q1 with
  | none=>exact .inr (fin none rfl (fun s h=>by cases h) (Option.some.inj h2).symm)
  | some q1 =>
  cases q1 with
  | inr r=>exact .inr (fin (some (.inr r)) rfl (fun s h=>by cases h) (Option.some.inj h2).symm)
  | inl s' =>
   rcases foldP_split h2 with ⟨s1,ss,e0,e1,e2,hs⟩ | ⟨r,k,ss,e0,hne,hk,e1,hs,hr⟩
   ·refine .inl ⟨s1,fun i=>match i with
     | 0=>s
     | i+1=>ss i,e0,rfl,by simpa using e2,fun i b hb=>?_⟩
    cases i with
    | zero=>simp at hb; subst hb; rw [h1,← e1]
    | succ i=>exact hs i b (by simpa using hb)
   ·refine .inr ⟨r,k+1,fun i=>match i with
     | 0=>s
     | i+1=>ss i,e0,hne,by simpa using hk,rfl,fun i b hi hb=>?_,fun b hb=>hr b (by simpa using hb)⟩
    cases i with
    | zero=>simp at hb; subst hb; rw [h1,← e1]
    | succ i=>exact hs i b (by omega) (by simpa using hb)
theorem Tr.rangeP {σ ρ α:Type} {cx:Cx} (hL:LayOK P cx.L) (hro:cx.ro=none) {g:Operand} {ps:Array Tmp} {asg body:Code} {T:Tp} {H:Hp} {Q:Post} {f:FuncId} {caps:List D} {ge:α→List D} {l:List α}
  (hg:opd T g=.d (.fn f caps)) (hit:∀ xs:YL,Rem xs ge 0 l→ItC P f caps xs) (hps:∀ x,(ge x).length=ps.size) (hlt:(ps.toList.all fun p=>Nat.blt p cx.N)=true) (pv:Value) (S:σ→Hp) (Sr:ρ→Hp) (Sp:Hp) (pe:Exit) (hpe:pe=.ret∨∃ id,pe=.exit id) (step:α→σ→Option (Option (σ ⊕ ρ))) (s0:σ) (q:Option (σ ⊕ ρ)) (hR:foldP step l s0=some q) (h0:Wk H.length [] H [] (S s0))
  (round:∀ (li:Nat) a s q,a ∈ l→step a s=some q→TrE P { N:=cx.N,ro:=some li,L:=cx.L,F:=(S s).length } asg (parT ps.toList (ge a) T) (S s) fun e T1 H1=>match e with
   | .normal=>(Tr P { N:=cx.N,ro:=some li,L:=cx.L,F:=H1.length } body T1 H1 fun e T2 H2=>match (generalizing:=false) q with
    | none=>e=.panic (pch pv)∧Wk H.length T2 H2 [] Sp
    | some (.inl s')=>e=.normal∧Wk H.length T2 H2 [] (S s')
    | some (.inr r)=>e=pe∧Wk H.length T2 H2 [] (Sr r))
   | _=>False)
  (hdone:match (generalizing:=false) q with
   | none=>Q (.panic (pch pv)) T Sp
   | some (.inl s1)=>Q .normal T (S s1)
   | some (.inr r)=>Q pe T (Sr r)):Tr P cx (.rangeFunc g ps asg body) T H Q:=by
 have hr:RangeP P cx g ps asg body T H Q:=by
  rcases foldP_split hR with ⟨s1,ss,rfl,e0,e1,hs⟩ | ⟨e,k,ss,rfl,hne,hk,e0,hs,hr⟩
  ·refine RangeP.mk0 (xs:=⟨l.map ge,false,none⟩) hL hro rfl hg (hit _ Rem.all) (fun x hx=>?_) hlt (fun i=>S (ss i)) .ret (.inl rfl) (fun h=>by cases h) (by rw [e0]; exact h0) (fun li i x hx=>?_) (by simp only [List.length_map,Bool.false_eq_true,if_false]; rw [e1]; exact hdone)
   ·obtain ⟨a,_,rfl⟩:=List.mem_map.1 hx
    exact hps a
   ·simp only [List.getElem?_map,Option.map_eq_some_iff] at hx
    obtain ⟨a,ha,rfl⟩:=hx
    refine ⟨_,round li a (ss i) _ (List.mem_of_getElem? ha) (hs i a ha),fun e T2 H2 hq=>?_⟩
    rw [if_pos (goB_false rfl)]
    exact hq
  ·have hlen:((l.take (k+1)).map ge).length=k+1:=by simp; omega
   cases q with
   | none =>
    refine RangeP.mk (xs:=⟨(l.take (k+1)).map ge,true,some pv⟩) hL hro hg (hit _ (Rem.stop hk)) (fun x hx=>?_) hlt (fun i=>S (ss i)) .ret (.inl rfl) Sp (fun _=>by show 0 < ((l.take (k+1)).map ge).length; rw [hlen]; omega) (fun _=>by show 0 < ((l.take (k+1)).map ge).length; rw [hlen]; omega) (by rw [e0]; exact h0) (fun li i x hx=>?_) hdone
    ·obtain ⟨a,_,rfl⟩:=List.mem_map.1 hx
     exact hps a
    ·have hx':((l.take (k+1)).map ge)[i]?=some x:=hx
     have hik:i < k+1:=by have:=(List.getElem?_eq_some_iff.1 hx').1; omega
     rw [List.getElem?_map,Option.map_eq_some_iff] at hx'
     obtain ⟨a,ha,rfl⟩:=hx'
     rw [List.getElem?_take_of_lt hik] at ha
     show ∃ R:Post,_∧∀ e T2 H2,R e T2 H2→match (generalizing:=false) (if i+1=((l.take (k+1)).map ge).length then some pv else none) with
      | some pv=>e=.panic (pch pv)∧Wk H.length T2 H2 [] Sp
      | none=>_
     rw [hlen]
     by_cases hi:i=k
     ·subst hi
      refine ⟨_,round li a (ss i) none (List.mem_of_getElem? ha) (hr a ha),fun e T2 H2 hq=>?_⟩
      rw [if_pos rfl]
      exact hq
     ·refine ⟨_,round li a (ss i) (some (.inl (ss (i+1)))) (List.mem_of_getElem? ha) (hs i a (by omega) ha),fun e T2 H2 hq=>?_⟩
      rw [if_neg (by omega)]
      have hg:goB ⟨(l.take (k+1)).map ge,true,some pv⟩ i=true:=by
       unfold goB
       rw [hlen]
       cases h:Nat.beq (i+1) (k+1) with
       | false=>rfl
       | true=>have:=Nat.eq_of_beq_eq_true h; omega
      show e=(if goB ⟨(l.take (k+1)).map ge,true,some pv⟩ i=true then Exit.normal else Exit.ret)∧_
      rw [hg,if_pos rfl]
      exact hq
   | some e =>
   cases e with
   | inl s=>exact absurd rfl (hne s)
   | inr r =>
    refine RangeP.mk0 (xs:=⟨(l.take (k+1)).map ge,true,none⟩) hL hro rfl hg (hit _ (Rem.stop hk)) (fun x hx=>?_) hlt (fun i=>if i≤k then S (ss i) else Sr r) pe hpe (fun _=>by show 0 < ((l.take (k+1)).map ge).length; rw [hlen]; omega) (by rw [if_pos (Nat.zero_le _),e0]; exact h0) (fun li i x hx=>?_) (by
     show Q (if true=true then pe else .normal) T (if ((l.take (k+1)).map ge).length≤k then _ else _)
     rw [hlen,if_neg (by omega:¬(k+1≤k)),if_pos rfl]; exact hdone)
    ·obtain ⟨a,_,rfl⟩:=List.mem_map.1 hx
     exact hps a
    ·have hx':((l.take (k+1)).map ge)[i]?=some x:=hx
     have hik:i < k+1:=by have:=(List.getElem?_eq_some_iff.1 hx').1; omega
     rw [List.getElem?_map,Option.map_eq_some_iff] at hx'
     obtain ⟨a,ha,rfl⟩:=hx'
     rw [List.getElem?_take_of_lt hik] at ha
     rw [if_pos (show i≤k by omega)]
     have hg:goB ⟨(l.take (k+1)).map ge,true,none⟩ i=!(Nat.beq (i+1) (k+1)):=by unfold goB; rw [hlen]; rfl
     rw [hg]
     by_cases hi:i=k
     ·subst hi
      refine ⟨_,round li a (ss i) (some (.inr r)) (List.mem_of_getElem? ha) (hr a ha),fun e T2 H2 hq=>?_⟩
      rw [Nat.beq_refl,if_neg (by decide),if_neg (by omega)]
      exact hq
     ·refine ⟨_,round li a (ss i) (some (.inl (ss (i+1)))) (List.mem_of_getElem? ha) (hs i a (by omega) ha),fun e T2 H2 hq=>?_⟩
      have hb:Nat.beq (i+1) (k+1)=false:=by
       cases h:Nat.beq (i+1) (k+1) with
       | false=>rfl
       | true=>have:=Nat.eq_of_beq_eq_true h; omega
      rw [hb,if_pos (show (!false)=true from rfl),if_pos (by omega)]
      exact hq
 unfold RangeP at hr
 exact hr
/- One element of an array holds references: reading it,letting the array go. -/
end Go.Abs
