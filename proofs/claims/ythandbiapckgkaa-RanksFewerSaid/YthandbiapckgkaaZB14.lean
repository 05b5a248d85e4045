/- A loop over an iterator whose rounds may panic, by its model. No condition. -/
import Derived.Test.YthandbiapckgkaaZB13
namespace Go.Abs
variable {P:Program} {X:Nat→Prop} {m m':Mp} {H:Hp} {w w':World}
/- One element of an array holds references: reading it,letting the array go. -/
theorem nthK_mono {α:Type} {k k':α→Prop} (h:∀ x,k x→k' x):∀ {l:List α} {n:Nat},nthK l n k→nthK l n k'
 | [],_,hh=>hh
 | _::_,0,hh=>h _ hh
 | _::r,n+1,hh=>nthK_mono h (l:=r) (n:=n) hh
theorem setK_mono {α:Type} {k k':List α→Prop} {y:α}:∀ {l:List α} {n:Nat},(∀ l,k l→k' l)→setK l n y k→setK l n y k'
 | [],_,_,hh=>hh
 | _::_,0,h,hh=>h _ hh
 | x::r,n+1,h,hh=>setK_mono (l:=r) (n:=n) (fun l hl=>h (x::l) hl) hh
theorem mapK_mono {f:AV→Hp→(D→Hp→Prop)→Prop} (hf:∀ x H (k k':D→Hp→Prop),f x H k→(∀ d H,k d H→k' d H)→f x H k'):∀ (l:List AV) (H:Hp) (k k':List D→Hp→Prop),mapK f l H k→(∀ d H,k d H→k' d H)→mapK f l H k'
 | [],_,_,_,h,hk=>hk _ _ h
 | x::l,H,k,k',h,hk=>hf x H _ _ h fun d H1 h1=>mapK_mono hf l H1 _ _ h1 fun ds H2 h2=>hk _ _ h2
theorem frz_mono:∀ (n:Nat) (x:AV) (H:Hp) (k k':D→Hp→Prop),frz n x H k→(∀ d H,k d H→k' d H)→frz n x H k'
 | 0,_,_,_,_,h,_=>h
 | n+1,x,H,k,k',h,hk=>by
  cases x with
  | d y=>exact hk _ _ h
  | nsl=>exact hk _ _ h
  | sl κ q off len =>
   simp only [frz] at h ⊢
   cases ho:Nat.beq off 0 with
   | false=>rw [ho] at h; exact h.elim
   | true =>
    rw [ho] at h
    simp only [cond_true] at h ⊢
    refine nthK_mono (fun B hB=>?_) h
    match B,hB with
    | some (.arr q' es),hB =>
     dsimp only at hB ⊢
     cases hq:Nat.beq q' q with
     | false=>rw [hq] at hB; exact hB.elim
     | true =>
      rw [hq] at hB
      simp only [cond_true] at hB ⊢
      unfold frE at hB ⊢
      have hs:∀ ds H1,(setK H1 κ none fun H'=>k (.ls ds) H')→setK H1 κ none fun H'=>k' (.ls ds) H':=fun ds H1 h1=>setK_mono (fun H' h2=>hk _ _ h2) h1
      rcases hB with ⟨ds,a,b,c⟩ | ⟨a,c⟩
      ·exact .inl ⟨ds,a,b,hs _ _ c⟩
      ·exact .inr ⟨a,mapK_mono (frz_mono n) _ _ _ _ c hs⟩
    | some (.var cs),hB=>exact hB.elim
    | some (.mp E),hB=>exact hB.elim
    | none,hB=>exact hB.elim
  | pt κ off =>
   simp only [frz] at h ⊢
   cases ho:Nat.beq off 0 with
   | false=>rw [ho] at h; exact h.elim
   | true =>
    rw [ho] at h
    simp only [cond_true] at h ⊢
    refine nthK_mono (fun B hB=>?_) h
    match B,hB with
    | some (.arr q' es),hB=>exact hB.elim
    | some (.var cs),hB=>exact setK_mono (fun H1 h1=>mapK_mono (frz_mono n) _ _ _ _ h1 fun ds H2 h2=>hk _ _ h2) hB
    | some (.mp E),hB=>exact hB.elim
    | none,hB=>exact hB.elim
  | ag cs=>exact mapK_mono (frz_mono n) _ _ _ _ h fun ds H' h'=>hk _ _ h'
  | fn f cs=>exact mapK_mono (frz_mono n) _ _ _ _ h fun ds H' h'=>hk _ _ h'
  | fm f cs=>exact mapK_mono (frz_mono n) _ _ _ _ h fun ds H' h'=>hk _ _ h'
  | _=>exact h.elim
theorem mapK_ds {n:Nat}:∀ (l:List D) (H:Hp) (k:List D→Hp→Prop),k l H→mapK (frz (n+1)) (l.map .d) H k
 | [],_,_,h=>h
 | x::l,H,k,h=>mapK_ds l H (fun ds H2=>k (x::ds) H2) h
theorem mapK_set {n:Nat} {e:AV}:∀ (l:List D) (i:Nat) (H:Hp) (k:List D→Hp→Prop),i < l.length→frz (n+1) e H (fun d H1=>k (l.set i d) H1)→mapK (frz (n+1)) ((l.map .d).set i e) H k
 | [],i,H,k,hi,_=>by simp at hi
 | x::l,0,H,k,_,h=>frz_mono _ e H _ _ h fun d H1 h1=>mapK_ds l H1 _ h1
 | x::l,i+1,H,k,hi,h=>mapK_set l i H (fun ds H2=>k (x::ds) H2) (by simpa using hi) h
theorem elP_set {α:Type} {f:α→D} {l:List α} {i:Int} {x:α} {e:AV} {k:AV→Prop} (h:idx l i=some x) (hk:k e):elP (List.set (List.map .d (l.map f)) (Int.toNat i) e) (0+i.toNat) k:=by
 obtain ⟨_,h2⟩:=idx_some h
 have hl:=(List.getElem?_eq_some_iff.1 h2).1
 exact elP_mk _ (by rw [Nat.zero_add,List.getElem?_set_self (by simpa using hl)]) hk
theorem frE_set {α:Type} {n m:Nat} {f:α→D} {l:List α} {i:Int} {x:α} {e:AV} {k:List D→Hp→Prop} (hn:m=l.length) (h:idx l i=some x) (he:frz (n+1) e H fun d H1=>lsS (List.set (l.map f) (Int.toNat i) d) fun es=>k es H1) :
  frE (frz (n+1)) (List.set (List.map .d (l.map f)) (Int.toNat i) e) m H k:=by
 obtain ⟨_,h2⟩:=idx_some h
 have hl:=(List.getElem?_eq_some_iff.1 h2).1
 exact frE_in (by simp [hn]) (mapK_set _ _ _ _ (by simpa using hl) (frz_mono _ _ _ _ _ he fun d H1 h1=>by unfold lsS at h1; obtain ⟨_,rfl,h1⟩:=h1; exact h1))
end Go.Abs
