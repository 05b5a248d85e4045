/- Plain laws about the models. No condition. -/
import Derived.Test.YtobjgfhbhhcfeaaZV
import Derived.KernelRfl
import Derived.Sort.AssemblyPlain
import Derived.Lib.BitFns
namespace Go.Stop
open Go Go.Abs
set_option linter.unusedVariables false
set_option linter.unusedSimpArgs false
theorem w64_of {n:Int} (h1:-9223372036854775808≤n) (h2:n≤9223372036854775807):w64 n=n:=by
 unfold w64; simp only [IntKind.wrap,IntKind.bits,IntKind.signed]; simp; omega
theorem w64_succ {i:Nat} (h:i < 9223372036854775807):w64 ((i:Int)+1)=((i+1:Nat):Int):=by
 rw [w64_of (by omega) (by omega)]; rfl
theorem idx_nat {α:Type} (l:List α) (i:Nat):idx l (i:Int)=l[i]?:=by
 unfold idx; simp
theorem idx_lt {α:Type} {l:List α} {i:Nat} (h:i < l.length):idx l (i:Int)=some l[i]:=by
 rw [idx_nat]; simp [h]
theorem some_bind {α β:Type} (a:α) (f:α→Option β):(some a).bind f=f a:=rfl
theorem dec_lt_nat (i n:Nat):decide ((i:Int) < (n:Int))=decide (i < n):=by simp
theorem dec_le_nat (i n:Nat):decide ((i:Int)≤(n:Int))=decide (i < n+1):=by
 by_cases h:i < n+1
 ·simp [h]; omega
 ·simp [h]; omega
section
open Classical
noncomputable def chk {β:Type} (p:Prop) (r:β) (k:Option β):Option β:=if p then k else some r
theorem chk_and {β:Type} (p q:Prop) (r:β) (k:Option β):chk p r (chk q r k)=chk (p∧q) r k:=by
 unfold chk; by_cases hp:p <;> by_cases hq:q <;> simp [hp,hq]
theorem chk_congr {β:Type} {p q:Prop} {r:β} {k k':Option β} (h:p↔q) (hk:p→k=k'):chk p r k=chk q r k':=by
 unfold chk
 by_cases hp:p
 ·rw [if_pos hp,if_pos (h.1 hp),hk hp]
 ·rw [if_neg hp,if_neg (fun hq=>hp (h.2 hq))]
theorem chk_loop {β:Type} {N:Nat} {f:Nat→Nat→Option β} {r:β} {ok:Nat→Prop} {k:Option β} (hs:∀ n i,i < N→f (n+1) i=chk (ok i) r (f n (i+1))) (he:∀ n,f (n+1) N=k) :
  f (N+1) 0=chk (∀ i,i < N→ok i) r k:=by
 unfold chk at hs ⊢
 have key:∀ c i n,i+c=N→c≤n→f (n+1) i=if (∀ j,i≤j→j < N→ok j) then k else some r:=by
  intro c
  induction c with
  | zero =>
   intro i n h _
   have:i=N:=by omega
   subst this
   rw [he,if_pos (fun j h1 h2=>absurd h2 (by omega))]
  | succ c ih =>
   intro i n h hn
   rw [hs n i (by omega)]
   obtain ⟨n,rfl⟩:∃ n',n=n'+1:=⟨n - 1,by omega⟩
   by_cases h1:ok i
   ·rw [if_pos h1,ih (i+1) n (by omega) (by omega)]
    by_cases h2:∀ j,i+1≤j→j < N→ok j
    ·rw [if_pos h2,if_pos]
     intro j hj hjN
     by_cases e:j=i
     ·exact e ▸ h1
     ·exact h2 j (by omega) hjN
    ·rw [if_neg h2,if_neg]
     intro h3
     exact h2 fun j hj hjN=>h3 j (by omega) hjN
   ·rw [if_neg h1,if_neg]
    intro h3
    exact h1 (h3 i (by omega) (by omega))
 rw [key N 0 N (by omega) (by omega)]
 simp
theorem chk_loop' {β:Type} {N:Nat} {f:Nat→Nat→Option β} {r:β} {ok:Nat→Prop} {k:Option β} (hs:∀ n i,i < N→(∀ j,j < i→ok j)→f (n+1) i=chk (ok i) r (f n (i+1))) (he:∀ n,(∀ j,j < N→ok j)→f (n+1) N=k) :
  f (N+1) 0=chk (∀ i,i < N→ok i) r k:=by
 have key:∀ c i n,i+c=N→c≤n→(∀ j,j < i→ok j)→f (n+1) i=chk (∀ j,j < N→ok j) r k:=by
  intro c
  induction c with
  | zero =>
   intro i n h _ hp
   have:i=N:=by omega
   subst this
   rw [he n hp]; unfold chk; rw [if_pos hp]
  | succ c ih =>
   intro i n h hn hp
   rw [hs n i (by omega) hp]
   obtain ⟨n,rfl⟩:∃ n',n=n'+1:=⟨n - 1,by omega⟩
   by_cases h1:ok i
   ·rw [ih (i+1) n (by omega) (by omega) (fun j hj=>by
     by_cases e:j=i
     ·exact e ▸ h1
     ·exact hp j (by omega))]
    unfold chk; rw [if_pos h1]
   ·unfold chk; rw [if_neg h1,if_neg (fun h3=>h1 (h3 i (by omega)))]
 exact key N 0 N (by omega) (by omega) (fun j hj=>absurd hj (by omega))
theorem run_inv {σ:Type} {N:Nat} {f:Nat→Nat→σ→Option σ} {I:Nat→σ→Prop} (hs:∀ n i s,i < N→I i s→∃ s',I (i+1) s'∧f (n+1) i s=f n (i+1) s') (he:∀ n s,f (n+1) N s=some s) {s0:σ} (h0:I 0 s0) :
  ∃ s,f (N+1) 0 s0=some s∧I N s:=by
 have key:∀ c i n s,i+c=N→c≤n→I i s→∃ s',f (n+1) i s=some s'∧I N s':=by
  intro c
  induction c with
  | zero =>
   intro i n s h _ hi
   have:i=N:=by omega
   subst this
   exact ⟨s,he n s,hi⟩
  | succ c ih =>
   intro i n s h hn hi
   obtain ⟨s',h1,h2⟩:=hs n i s (by omega) hi
   obtain ⟨n,rfl⟩:∃ n',n=n'+1:=⟨n - 1,by omega⟩
   rw [h2]
   exact ih (i+1) n s' (by omega) (by omega) h1
 exact key N 0 N s0 (by omega) (by omega) h0
theorem find_loop {N:Nat} {f:Nat→Nat→Option Int} {p:Nat→Prop} (hs:∀ n i,i < N→f (n+1) i=if p i then some (i:Int) else f n (i+1)) (he:∀ n,f (n+1) N=some (-1)) :
  ∃ r,f (N+1) 0=some r∧(r≥0↔∃ i,i < N∧p i):=by
 have key:∀ c i n,i+c=N→c≤n→∃ r,f (n+1) i=some r∧(r≥0↔∃ j,i≤j∧j < N∧p j):=by
  intro c
  induction c with
  | zero =>
   intro i n h _
   have:i=N:=by omega
   subst this
   refine ⟨-1,he n,by simp; omega⟩
  | succ c ih =>
   intro i n h hn
   rw [hs n i (by omega)]
   obtain ⟨n,rfl⟩:∃ n',n=n'+1:=⟨n - 1,by omega⟩
   by_cases h1:p i
   ·rw [if_pos h1]
    exact ⟨_,rfl,fun _=>⟨i,Nat.le_refl _,by omega,h1⟩,fun _=>by omega⟩
   ·rw [if_neg h1]
    obtain ⟨r,h2,h3⟩:=ih (i+1) n (by omega) (by omega)
    refine ⟨r,h2,h3.trans ⟨fun ⟨j,a,b,c⟩=>⟨j,by omega,b,c⟩,fun ⟨j,a,b,c⟩=>⟨j,?_,b,c⟩⟩⟩
    by_cases e:j=i
    ·exact absurd (e ▸ c) h1
    ·omega
 obtain ⟨r,h1,h2⟩:=key N 0 N (by omega) (by omega)
 exact ⟨r,h1,h2.trans ⟨fun ⟨j,_,b,c⟩=>⟨j,b,c⟩,fun ⟨j,b,c⟩=>⟨j,by omega,b,c⟩⟩⟩
end
theorem bif_dec {β:Type} (p:Prop) [Decidable p] (a b:β):(bif decide p then a else b)=if p then a else b:=by
 by_cases h:p <;> simp [h]
theorem bif_eq {β:Type} (x y:Int) (a b:β):(bif x == y then a else b)=if x=y then a else b:=by
 rw [Bool.cond_eq_ite]; simp only [beq_iff_eq]
theorem bif_ne {β:Type} (x y:Int) (a b:β):(bif x != y then a else b)=if x=y then b else a:=by
 rw [Bool.cond_eq_ite]; simp only [bne_iff_ne,ne_eq,ite_not]
theorem chk_pos {β:Type} {p:Prop} {r:β} {k:Option β} (h:p):chk p r k=k:=by unfold chk; rw [if_pos h]
theorem chk_neg {β:Type} {p:Prop} {r:β} {k:Option β} (h:¬p):chk p r k=some r:=by unfold chk; rw [if_neg h]
theorem bind_chk {β:Type} {p:Prop} {t:Option Bool} {r:β} {k:Option β} (h:∃ b,t=some b∧(b=true↔¬p)):(t.bind fun v=>bif v then some r else k)=chk p r k:=by
 obtain ⟨b,rfl,hb⟩:=h
 cases b with
 | true=>rw [chk_neg (hb.1 rfl)]; rfl
 | false=>rw [chk_pos (Classical.byContradiction fun h=>by simpa using hb.2 h)]; rfl
theorem fuel_sub (n:Nat):((n:Int) - 0).toNat+1=n+1:=by omega
theorem fuel_add (n:Nat):((n:Int)+1 - 0).toNat+1=(n+1)+1:=by omega
theorem cmp_eq (a b:Int):M3 a b=some (if a < b then -1 else if b < a then 1 else 0):=by
 unfold M3 M2
 simp only [some_bind,bne_self_eq_false,cond_false,bif_dec]
 split
 ·rfl
 ·split
  ·rfl
  ·rfl
theorem or2_eq (a b:Int):M6 [a,b]=some (if a≠0 then a else b):=by
 have s0:M6 [a,b]=bif a != 0 then some a else M4 [a,b] M5 2 1:=rfl
 have s1:M4 [a,b] M5 2 1=bif b != 0 then some b else M4 [a,b] M5 1 2:=rfl
 have s2:M4 [a,b] M5 1 2=some 0:=rfl
 rw [s0,s1,s2,bif_ne,bif_ne]
 by_cases ha:a=0
 ·by_cases hb:b=0
  ·simp [ha,hb]
  ·simp [ha,hb]
 ·simp [ha]
def SegLt (y x:TSegment):Prop:=y.Mat < x.Mat∨y.Mat=x.Mat∧y.Epoch < x.Epoch
theorem order_eq (y x:TSegment):∃ r,M8 y x=some r∧(r≥0↔¬SegLt y x):=by
 unfold M8 M7 SegLt
 simp only [cmp_eq,some_bind,or2_eq]
 refine ⟨_,rfl,?_⟩
 by_cases h1:y.Mat < x.Mat
 ·simp [h1]
 ·by_cases h2:x.Mat < y.Mat
  ·simp [h1,h2]; omega
  ·have:y.Mat=x.Mat:=by omega
   simp only [this,Int.lt_irrefl,if_false,ne_eq,not_true,false_or,true_and]
   by_cases h3:y.Epoch < x.Epoch
   ·rw [if_pos h3]; omega
   ·rw [if_neg h3]
    split <;> omega
theorem less_eq (y x:TSegment):∃ r,M153 y x=some r∧(r=true↔SegLt y x):=by
 unfold M153 SegLt
 by_cases h1:y.Mat < x.Mat
 ·exact ⟨true,by simp [h1],by simp [h1]⟩
 ·rw [bif_dec,if_neg h1,bif_eq]
  by_cases h2:y.Mat=x.Mat
  ·exact ⟨decide (y.Epoch < x.Epoch),by rw [if_pos h2],by simp [h2]⟩
  ·exact ⟨false,by rw [if_neg h2],by simp [h2]; omega⟩
theorem time_eq (n:Int):M1 n=some (decide (-1099511627776≤n∧n≤1099511627776)):=by
 unfold M1; rw [bif_dec]; split
 ·congr 1; simp; omega
 ·congr 1; symm; simp; omega
theorem time16_eq (n:Int):M152 n=some (decide (-1099511627776≤n∧n≤1099511627776)):=time_eq n
def SegOK (l:List TSegment) (i:Nat):Prop:=∀ x,l[i]?=some x→0≤x.Mat∧x.Mat < 40∧0≤x.Epoch∧x.Epoch≤255∧(-1099511627776≤x.Anchor∧x.Anchor≤1099511627776)∧(0 < i→∀ y,l[i - 1]?=some y→SegLt y x)
theorem pred_nat {i:Nat} (h:0 < i) (h':i < 9223372036854775807):w64 ((i:Int) - 1)=((i - 1:Nat):Int):=by
 rw [w64_of (by omega) (by omega)]; omega
theorem clocks_L1 {k:TClocks} {kk:Unit→Option Int} (hl:k.Segments.length < 9223372036854775807):M14 k kk (k.Segments.length+1) 0=chk (∀ i,i < k.Segments.length→SegOK k.Segments i) 160 (kk ()):=by
 refine chk_loop (f:=fun n i=>M14 k kk n (i:Int)) (fun n i hi=>?_) (fun n=>?_)
 ·show M14 k kk (n+1) (i:Int)=_
  rw [M14,dec_lt_nat,decide_eq_true hi,cond_true,idx_lt hi,some_bind,w64_succ (by omega)]
  have hx:k.Segments[i]?=some k.Segments[i]:=by simp [hi]
  generalize k.Segments[i]=x at hx
  refine bind_chk ?_
  have hs:SegOK k.Segments i↔(0≤x.Mat∧x.Mat < 40∧0≤x.Epoch∧x.Epoch≤255∧(-1099511627776≤x.Anchor∧x.Anchor≤1099511627776)∧(0 < i→∀ y,k.Segments[i - 1]?=some y→SegLt y x)):=by
   unfold SegOK; rw [hx]; simp
  rw [hs]
  simp only [bif_dec,time_eq,some_bind]
  by_cases h1:x.Mat < 0
  ·exact ⟨true,if_pos h1,by simp; omega⟩
  rw [if_neg h1]
  by_cases h2:x.Mat≥40
  ·exact ⟨true,if_pos h2,by simp; omega⟩
  rw [if_neg h2]
  by_cases h3:x.Epoch < 0
  ·exact ⟨true,if_pos h3,by simp; omega⟩
  rw [if_neg h3]
  by_cases h4:x.Epoch > 255
  ·exact ⟨true,if_pos h4,by simp; omega⟩
  rw [if_neg h4]
  by_cases h5:-1099511627776≤x.Anchor∧x.Anchor≤1099511627776
  ·rw [decide_eq_true h5,Bool.not_true,cond_false]
   by_cases h6:(i:Int) > 0
   ·rw [if_pos h6]
    have h7:0 < i:=by omega
    have h8:i - 1 < k.Segments.length:=by omega
    rw [pred_nat h7 (by omega),idx_lt h8,some_bind]
    obtain ⟨r,h9,h10⟩:=order_eq k.Segments[i - 1] x
    rw [h9,some_bind]
    refine ⟨_,rfl,?_⟩
    rw [decide_eq_true_iff,h10]
    constructor
    ·intro h11 h12
     exact h11 (h12.2.2.2.2.2 h7 _ (by simp [h8]))
    ·intro h11 h12
     refine h11 ⟨by omega,by omega,by omega,by omega,h5,fun _ y hy=>?_⟩
     rw [List.getElem?_eq_getElem h8] at hy
     cases hy
     exact h12
   ·rw [if_neg h6]
    refine ⟨false,rfl,?_⟩
    simp only [Bool.false_eq_true,false_iff,Classical.not_not]
    exact ⟨by omega,by omega,by omega,by omega,h5,fun h=>by omega⟩
  ·rw [decide_eq_false h5,Bool.not_false,cond_true]
   refine ⟨true,rfl,?_⟩
   simp only [true_iff]
   exact fun h=>h5 h.2.2.2.2.1
 ·show M14 k kk (n+1) ((k.Segments.length:Nat):Int)=_
  rw [M14]
  simp
theorem ref16_L1 {k:TClocks} {kk:Unit→Option Int} (hl:k.Segments.length < 9223372036854775807):M154 k kk (k.Segments.length+1) 0=chk (∀ i,i < k.Segments.length→SegOK k.Segments i) 160 (kk ()):=by
 refine chk_loop (f:=fun n i=>M154 k kk n (i:Int)) (fun n i hi=>?_) (fun n=>?_)
 ·show M154 k kk (n+1) (i:Int)=_
  rw [M154,dec_lt_nat,decide_eq_true hi,cond_true,idx_lt hi,some_bind,w64_succ (by omega)]
  have hx:k.Segments[i]?=some k.Segments[i]:=by simp [hi]
  generalize k.Segments[i]=x at hx
  refine bind_chk ?_
  have hs:SegOK k.Segments i↔(0≤x.Mat∧x.Mat < 40∧0≤x.Epoch∧x.Epoch≤255∧(-1099511627776≤x.Anchor∧x.Anchor≤1099511627776)∧(0 < i→∀ y,k.Segments[i - 1]?=some y→SegLt y x)):=by
   unfold SegOK; rw [hx]; simp
  rw [hs]
  simp only [bif_dec,time16_eq,some_bind]
  by_cases h1:x.Mat < 0
  ·exact ⟨true,if_pos h1,by simp; omega⟩
  rw [if_neg h1]
  by_cases h2:x.Mat≥40
  ·exact ⟨true,if_pos h2,by simp; omega⟩
  rw [if_neg h2]
  by_cases h3:x.Epoch < 0
  ·exact ⟨true,if_pos h3,by simp; omega⟩
  rw [if_neg h3]
  by_cases h4:x.Epoch > 255
  ·exact ⟨true,if_pos h4,by simp; omega⟩
  rw [if_neg h4]
  by_cases h5:-1099511627776≤x.Anchor∧x.Anchor≤1099511627776
  ·rw [decide_eq_true h5,Bool.not_true,cond_false]
   by_cases h6:(i:Int) > 0
   ·rw [if_pos h6]
    have h7:0 < i:=by omega
    have h8:i - 1 < k.Segments.length:=by omega
    rw [pred_nat h7 (by omega),idx_lt h8,some_bind]
    obtain ⟨r,h9,h10⟩:=less_eq k.Segments[i - 1] x
    rw [h9,some_bind]
    refine ⟨_,rfl,?_⟩
    rw [Bool.not_eq_true',← Bool.not_eq_true,h10]
    constructor
    ·intro h11 h12
     exact h11 (h12.2.2.2.2.2 h7 _ (by simp [h8]))
    ·intro h11 h12
     refine h11 ⟨by omega,by omega,by omega,by omega,h5,fun _ y hy=>?_⟩
     rw [List.getElem?_eq_getElem h8] at hy
     cases hy
     exact h12
   ·rw [if_neg h6]
    refine ⟨false,rfl,?_⟩
    simp only [Bool.false_eq_true,false_iff,Classical.not_not]
    exact ⟨by omega,by omega,by omega,by omega,h5,fun h=>by omega⟩
  ·rw [decide_eq_false h5,Bool.not_false,cond_true]
   refine ⟨true,rfl,?_⟩
   simp only [true_iff]
   exact fun h=>h5 h.2.2.2.2.1
 ·show M154 k kk (n+1) ((k.Segments.length:Nat):Int)=_
  rw [M154]
  simp
def at2 (l:List (List Int)) (i j:Nat):Int:=((l[i]?.getD [])[j]?).getD 0
def Entry (w:Int):Prop:=-2199023255552≤w∧w≤2199023255552
def RowOK (k:TClocks) (i:Nat):Prop:=(k.Far[i]?.getD []).length=k.Segments.length+1∧at2 k.Far i i=0∧∀ j,j < k.Segments.length+1→Entry (at2 k.Far i j)
def TriOK (k:TClocks):Prop:=∀ i,i < k.Segments.length+1→∀ j,j < k.Segments.length+1→∀ m,m < k.Segments.length+1→¬at2 k.Far i m > w64 (at2 k.Far i j+at2 k.Far j m)
theorem idx2 {l:List (List Int)} {i j:Nat} {row:List Int} (h:l[i]?=some row) (hj:j < row.length):idx row (j:Int)=some (at2 l i j):=by
 rw [idx_lt hj]; unfold at2; rw [h]; simp [hj]
theorem contains_eq (row:List Int) (hl:row.length < 9223372036854775807):∃ b,M13 row=some b∧(b=true↔∃ j,j < row.length∧¬Entry (row[j]?.getD 0)):=by
 unfold M13 M12
 rw [fuel_sub]
 obtain ⟨r,h1,h2⟩:=find_loop (N:=row.length) (f:=fun n i=>M10 row M11 n (i:Int)) (p:=fun j=>¬Entry (row[j]?.getD 0)) (fun n i hi=>by
  show M10 row _ (n+1) (i:Int)=_
  rw [M10,dec_lt_nat,decide_eq_true hi,cond_true,idx_lt hi,some_bind,w64_succ (by omega)]
  have hx:row[i]?.getD 0=row[i]:=by simp [hi]
  rw [hx]
  generalize row[i]=w
  unfold M9 Entry
  rw [bif_dec]
  by_cases h1:w < -2199023255552
  ·rw [if_pos h1,some_bind,cond_true,if_pos (by omega)]
  ·rw [if_neg h1,some_bind,bif_dec]
   by_cases h2:w > 2199023255552
   ·rw [if_pos h2,if_pos (by omega)]
   ·rw [if_neg h2,if_neg (by omega)]) (fun n=>by
  show M10 row _ (n+1) ((row.length:Nat):Int)=_
  rw [M10]
  simp [M11])
 refine ⟨decide (r≥0),?_,by rw [decide_eq_true_iff]; exact h2⟩
 have h1:M10 row M11 (row.length+1) 0=some r:=h1
 rw [h1]; rfl
theorem clocks_L2 {k:TClocks} {kk:Unit→Option Int} (hl:k.Segments.length≤511) (hf:k.Far.length=k.Segments.length+1):M15 k kk (k.Far.length+1) 0=chk (∀ i,i < k.Far.length→RowOK k i) 160 (kk ()):=by
 refine chk_loop (f:=fun n i=>M15 k kk n (i:Int)) (fun n i hi=>?_) (fun n=>?_)
 ·show M15 k kk (n+1) (i:Int)=_
  rw [M15,dec_lt_nat,decide_eq_true hi,cond_true,idx_lt hi,some_bind,w64_succ (by omega),w64_succ (by omega)]
  have hx:k.Far[i]?=some k.Far[i]:=by simp [hi]
  generalize k.Far[i]=row at hx
  rw [bif_ne]
  have hr:RowOK k i↔row.length=k.Segments.length+1∧at2 k.Far i i=0∧∀ j,j < k.Segments.length+1→Entry (at2 k.Far i j):=by
   unfold RowOK; rw [hx]; rfl
  by_cases h1:row.length=k.Segments.length+1
  ·rw [if_pos (by omega),idx2 hx (by omega),some_bind,bif_ne]
   by_cases h2:at2 k.Far i i=0
   ·rw [if_pos h2]
    obtain ⟨b,h3,h4⟩:=contains_eq row (by omega)
    rw [h3]
    refine bind_chk ⟨b,rfl,?_⟩
    rw [h4,hr,h1]
    constructor
    ·rintro ⟨j,h5,h6⟩ ⟨_,_,h7⟩
     have:=h7 j h5
     unfold at2 at this
     rw [hx] at this
     exact h6 this
    ·intro h5
     refine Classical.byContradiction fun h6=>h5 ⟨rfl,h2,fun j hj=>Classical.byContradiction fun h7=>h6 ⟨j,hj,fun h8=>h7 ?_⟩⟩
     unfold at2
     rw [hx]
     exact h8
   ·rw [if_neg h2,chk_neg (fun h=>h2 (hr.1 h).2.1)]
  ·rw [if_neg (by omega),chk_neg (fun h=>h1 (hr.1 h).1)]
 ·show M15 k kk (n+1) ((k.Far.length:Nat):Int)=_
  rw [M15]
  simp
theorem rows_get {k:TClocks} (h:∀ i,i < k.Far.length→RowOK k i) (hf:k.Far.length=k.Segments.length+1) {i:Nat} (hi:i < k.Segments.length+1):∃ row,k.Far[i]?=some row∧idx k.Far (i:Int)=some row∧row.length=k.Segments.length+1:=by
 have hi':i < k.Far.length:=by omega
 refine ⟨k.Far[i],by simp [hi'],idx_lt hi',?_⟩
 have:=(h i hi').1
 simpa [hi'] using this
theorem clocks_L5 {k:TClocks} {kk:Unit→Option Int} (hl:k.Segments.length≤511) (hf:k.Far.length=k.Segments.length+1) (h:∀ i,i < k.Far.length→RowOK k i) {i j:Nat} (hi:i < k.Segments.length+1) {x:Int} {row:List Int} (hr:k.Far[j]?=some row) (hrl:row.length=k.Segments.length+1) :
  M16 k i x row kk (row.length+1) 0=chk (∀ m,m < row.length→¬at2 k.Far i m > w64 (x+at2 k.Far j m)) 160 (kk ()):=by
 refine chk_loop (f:=fun n m=>M16 k i x row kk n (m:Int)) (fun n m hm=>?_) (fun n=>?_)
 ·show M16 k i x row kk (n+1) (m:Int)=_
  obtain ⟨row',h1,h2,h3⟩:=rows_get h hf hi
  rw [M16,dec_lt_nat,decide_eq_true hm,cond_true,idx2 hr hm,some_bind,h2,some_bind,idx2 h1 (by omega),some_bind,w64_succ (by omega),bif_dec]
  by_cases h4:at2 k.Far i m > w64 (x+at2 k.Far j m)
  ·rw [if_pos h4,chk_neg (fun h=>h h4)]
  ·rw [if_neg h4,chk_pos h4]
 ·show M16 k i x row kk (n+1) ((row.length:Nat):Int)=_
  rw [M16]
  simp
theorem clocks_L4 {k:TClocks} {kk:Unit→Option Int} (hl:k.Segments.length≤511) (hf:k.Far.length=k.Segments.length+1) (h:∀ i,i < k.Far.length→RowOK k i) {i:Nat} (hi:i < k.Segments.length+1) {row:List Int} (hr:k.Far[i]?=some row) (hrl:row.length=k.Segments.length+1) :
  M18 k i row kk (row.length+1) 0=chk (∀ j,j < row.length→∀ m,m < k.Segments.length+1→¬at2 k.Far i m > w64 (at2 k.Far i j+at2 k.Far j m)) 160 (kk ()):=by
 refine chk_loop (f:=fun n j=>M18 k i row kk n (j:Int)) (fun n j hj=>?_) (fun n=>?_)
 ·show M18 k i row kk (n+1) (j:Int)=_
  obtain ⟨row',h1,h2,h3⟩:=rows_get h hf (i:=j) (by omega)
  rw [M18,dec_lt_nat,decide_eq_true hj,cond_true,idx2 hr hj,some_bind,h2,some_bind,fuel_sub,clocks_L5 hl hf h hi h1 h3,h3]
  show chk _ _ (M18 k i row kk n (w64 ((j:Int)+1)))=_
  rw [w64_succ (by omega)]
 ·show M18 k i row kk (n+1) ((row.length:Nat):Int)=_
  rw [M18]
  simp
theorem clocks_L3 {k:TClocks} {kk:Unit→Option Int} (hl:k.Segments.length≤511) (hf:k.Far.length=k.Segments.length+1) (h:∀ i,i < k.Far.length→RowOK k i) :
  M20 k kk (k.Segments.length+1+1) 0=chk (TriOK k) 160 (kk ()):=by
 refine chk_loop (N:=k.Segments.length+1) (f:=fun n i=>M20 k kk n (i:Int)) (fun n i hi=>?_) (fun n=>?_)
 ·show M20 k kk (n+1) (i:Int)=_
  obtain ⟨row,h1,h2,h3⟩:=rows_get h hf hi
  rw [M20,w64_succ (by omega),dec_lt_nat,decide_eq_true hi,cond_true,h2,some_bind,fuel_sub,clocks_L4 hl hf h hi h1 h3,h3]
  show chk _ _ (M20 k kk n (w64 ((i:Int)+1)))=_
  rw [w64_succ (by omega)]
 ·show M20 k kk (n+1) ((k.Segments.length+1:Nat):Int)=_
  rw [M20,w64_succ (by omega)]
  simp
structure ClocksOK (k:TClocks):Prop where
 few:k.Segments.length≤511
 far:k.Far.length=k.Segments.length+1
 seg:∀ i,i < k.Segments.length→SegOK k.Segments i
 row:∀ i,i < k.Far.length→RowOK k i
 tri:TriOK k
theorem clocksOK_iff (k:TClocks):ClocksOK k↔k.Segments.length≤511∧k.Far.length=k.Segments.length+1∧(∀ i,i < k.Segments.length→SegOK k.Segments i)∧(∀ i,i < k.Far.length→RowOK k i)∧TriOK k :=
 ⟨fun ⟨a,b,c,d,e⟩=>⟨a,b,c,d,e⟩,fun ⟨a,b,c,d,e⟩=>⟨a,b,c,d,e⟩⟩
theorem chk_and' {β:Type} {p q:Prop} {r:β} {k k':Option β} (h:p→k=chk q r k'):chk p r k=chk (p∧q) r k':=by
 rw [← chk_and]; exact chk_congr Iff.rfl h
theorem clocks_Check_eq {k:TClocks} (hw:k.Segments.length < 9223372036854775807):M24 k=chk (ClocksOK k) 160 (some 0):=by
 unfold M24
 rw [bif_dec,bif_ne,fuel_sub,w64_succ (by omega),clocks_L1 (by omega)]
 have e:chk (ClocksOK k) (160:Int) (some 0)=chk (k.Segments.length≤511∧k.Far.length=k.Segments.length+1∧(∀ i,i < k.Segments.length→SegOK k.Segments i)∧(∀ i,i < k.Far.length→RowOK k i)∧TriOK k) 160 (some 0):=chk_congr (clocksOK_iff k) fun _=>rfl
 rw [e]
 by_cases h1:k.Segments.length≤511
 ·rw [if_neg (by omega)]
  by_cases h2:k.Far.length=k.Segments.length+1
  ·rw [if_pos (by omega)]
   refine Eq.trans ?_ (chk_congr (p:=(∀ i,i < k.Segments.length→SegOK k.Segments i)∧(∀ i,i < k.Far.length→RowOK k i)∧TriOK k) (by simp [h1,h2]) fun _=>rfl)
   refine chk_and' fun _=>?_
   show M15 k (M22 k) _ 0=_
   rw [fuel_sub,clocks_L2 h1 h2]
   refine chk_and' fun h3=>?_
   show M20 k M21 _ 0=_
   rw [w64_succ (by omega),fuel_sub,clocks_L3 h1 h2 h3]
   rfl
  ·rw [if_neg (by omega),chk_neg (fun h=>h2 h.2.1)]
 ·rw [if_pos (by omega),chk_neg (fun h=>h1 h.1)]
theorem ref16_L3 {k:TClocks} {kk:Unit→Option Int} (hl:k.Segments.length≤511) {i:Nat} {row:List Int} (h1:k.Far[i]?=some row) (h2:idx k.Far (i:Int)=some row) (h3:row.length=k.Segments.length+1) :
  M155 k i kk (k.Segments.length+1+1) 0=chk (∀ j,j < k.Segments.length+1→Entry (at2 k.Far i j)) 160 (kk ()):=by
 refine chk_loop (N:=k.Segments.length+1) (f:=fun n j=>M155 k i kk n (j:Int)) (fun n j hj=>?_) (fun n=>?_)
 ·show M155 k i kk (n+1) (j:Int)=_
  rw [M155,dec_le_nat,decide_eq_true hj,cond_true,h2,some_bind,idx2 h1 (by omega),some_bind,some_bind,idx2 h1 (by omega),some_bind,w64_succ (by omega),bif_dec,bif_dec]
  unfold Entry
  by_cases h4:at2 k.Far i j < -2199023255552
  ·rw [if_pos h4,chk_neg (by omega)]
  ·rw [if_neg h4]
   by_cases h5:at2 k.Far i j > 2199023255552
   ·rw [if_pos h5,chk_neg (by omega)]
   ·rw [if_neg h5,chk_pos (by omega)]
 ·show M155 k i kk (n+1) ((k.Segments.length+1:Nat):Int)=_
  rw [M155,dec_le_nat]
  simp
theorem ref16_L2 {k:TClocks} {kk:Unit→Option Int} (hl:k.Segments.length≤511) (hf:k.Far.length=k.Segments.length+1) :
  M157 k kk (k.Segments.length+1+1) 0=chk (∀ i,i < k.Far.length→RowOK k i) 160 (kk ()):=by
 rw [hf]
 refine chk_loop (N:=k.Segments.length+1) (f:=fun n i=>M157 k kk n (i:Int)) (fun n i hi=>?_) (fun n=>?_)
 ·show M157 k kk (n+1) (i:Int)=_
  have hi':i < k.Far.length:=by omega
  have hi2:idx k.Far (i:Int)=some k.Far[i]:=idx_lt hi'
  have hx:k.Far[i]?=some k.Far[i]:=by simp [hi']
  rw [M157,dec_le_nat,decide_eq_true hi,cond_true,hi2,some_bind,some_bind,w64_succ (by omega),bif_ne]
  generalize k.Far[i]=row at hx hi2
  have hr:RowOK k i↔row.length=k.Segments.length+1∧at2 k.Far i i=0∧∀ j,j < k.Segments.length+1→Entry (at2 k.Far i j):=by
   unfold RowOK; rw [hx]; rfl
  by_cases h1:row.length=k.Segments.length+1
  ·rw [if_pos (by omega),idx2 hx (by omega),some_bind,bif_ne]
   by_cases h2:at2 k.Far i i=0
   ·rw [if_pos h2,fuel_add,ref16_L3 hl hx hi2 h1]
    show chk _ _ (M157 k kk n (w64 ((i:Int)+1)))=_
    rw [w64_succ (by omega)]
    exact chk_congr ⟨fun h=>hr.2 ⟨h1,h2,h⟩,fun h=>(hr.1 h).2.2⟩ fun _=>rfl
   ·rw [if_neg h2,chk_neg (fun h=>h2 (hr.1 h).2.1)]
  ·rw [if_neg (by omega),chk_neg (fun h=>h1 (hr.1 h).1)]
 ·show M157 k kk (n+1) ((k.Segments.length+1:Nat):Int)=_
  rw [M157,dec_le_nat]
  simp
theorem ref16_L7 {k:TClocks} {kk:Unit→Option Int} (hl:k.Segments.length≤511) (hf:k.Far.length=k.Segments.length+1) (h:∀ i,i < k.Far.length→RowOK k i) {i j:Nat} (hi:i < k.Segments.length+1) (hj:j < k.Segments.length+1) :
  M158 k i j kk (k.Segments.length+1+1) 0=chk (∀ m,m < k.Segments.length+1→¬at2 k.Far i m > w64 (at2 k.Far i j+at2 k.Far j m)) 160 (kk ()):=by
 refine chk_loop (N:=k.Segments.length+1) (f:=fun n m=>M158 k i j kk n (m:Int)) (fun n m hm=>?_) (fun n=>?_)
 ·show M158 k i j kk (n+1) (m:Int)=_
  obtain ⟨row,h1,h2,h3⟩:=rows_get h hf hi
  obtain ⟨row',h1',h2',h3'⟩:=rows_get h hf hj
  rw [M158,dec_le_nat,decide_eq_true hm,cond_true,h2,some_bind,idx2 h1 (by omega),some_bind,some_bind,idx2 h1 (by omega),some_bind,h2',some_bind,idx2 h1' (by omega),some_bind,w64_succ (by omega),bif_dec]
  by_cases h4:at2 k.Far i m > w64 (at2 k.Far i j+at2 k.Far j m)
  ·rw [if_pos h4,chk_neg (fun h=>h h4)]
  ·rw [if_neg h4,chk_pos h4]
 ·show M158 k i j kk (n+1) ((k.Segments.length+1:Nat):Int)=_
  rw [M158,dec_le_nat]
  simp
theorem ref16_L6 {k:TClocks} {kk:Unit→Option Int} (hl:k.Segments.length≤511) (hf:k.Far.length=k.Segments.length+1) (h:∀ i,i < k.Far.length→RowOK k i) {i:Nat} (hi:i < k.Segments.length+1) :
  M160 k i kk (k.Segments.length+1+1) 0=chk (∀ j,j < k.Segments.length+1→∀ m,m < k.Segments.length+1→¬at2 k.Far i m > w64 (at2 k.Far i j+at2 k.Far j m)) 160 (kk ()):=by
 refine chk_loop (N:=k.Segments.length+1) (f:=fun n j=>M160 k i kk n (j:Int)) (fun n j hj=>?_) (fun n=>?_)
 ·show M160 k i kk (n+1) (j:Int)=_
  rw [M160,dec_le_nat,decide_eq_true hj,cond_true,fuel_add,ref16_L7 hl hf h hi hj]
  show chk _ _ (M160 k i kk n (w64 ((j:Int)+1)))=_
  rw [w64_succ (by omega)]
 ·show M160 k i kk (n+1) ((k.Segments.length+1:Nat):Int)=_
  rw [M160,dec_le_nat]
  simp
theorem ref16_L5 {k:TClocks} {kk:Unit→Option Int} (hl:k.Segments.length≤511) (hf:k.Far.length=k.Segments.length+1) (h:∀ i,i < k.Far.length→RowOK k i) :
  M162 k kk (k.Segments.length+1+1) 0=chk (TriOK k) 160 (kk ()):=by
 refine chk_loop (N:=k.Segments.length+1) (f:=fun n i=>M162 k kk n (i:Int)) (fun n i hi=>?_) (fun n=>?_)
 ·show M162 k kk (n+1) (i:Int)=_
  rw [M162,dec_le_nat,decide_eq_true hi,cond_true,fuel_add,ref16_L6 hl hf h hi]
  show chk _ _ (M162 k kk n (w64 ((i:Int)+1)))=_
  rw [w64_succ (by omega)]
 ·show M162 k kk (n+1) ((k.Segments.length+1:Nat):Int)=_
  rw [M162,dec_le_nat]
  simp
theorem ref16_Check_eq {k:TClocks} (hw:k.Segments.length < 9223372036854775807):M166 k=chk (ClocksOK k) 160 (some 0):=by
 unfold M166
 rw [bif_dec,bif_ne,fuel_sub,w64_succ (by omega),ref16_L1 (by omega)]
 have e:chk (ClocksOK k) (160:Int) (some 0)=chk (k.Segments.length≤511∧k.Far.length=k.Segments.length+1∧(∀ i,i < k.Segments.length→SegOK k.Segments i)∧(∀ i,i < k.Far.length→RowOK k i)∧TriOK k) 160 (some 0):=chk_congr (clocksOK_iff k) fun _=>rfl
 rw [e]
 by_cases h1:k.Segments.length≤511
 ·rw [if_neg (by omega)]
  by_cases h2:k.Far.length=k.Segments.length+1
  ·rw [if_pos (by omega)]
   refine Eq.trans ?_ (chk_congr (p:=(∀ i,i < k.Segments.length→SegOK k.Segments i)∧(∀ i,i < k.Far.length→RowOK k i)∧TriOK k) (by simp [h1,h2]) fun _=>rfl)
   refine chk_and' fun _=>?_
   show M157 k (M164 k) _ 0=_
   rw [fuel_add,ref16_L2 h1 h2]
   refine chk_and' fun h3=>?_
   show M162 k M163 _ 0=_
   rw [fuel_add,ref16_L5 h1 h2 h3]
   rfl
  ·rw [if_neg (by omega),chk_neg (fun h=>h2 h.2.1)]
 ·rw [if_pos (by omega),chk_neg (fun h=>h1 h.1)]
def OutOK (k:TClocks) (x:TOutcome):Prop :=
 (x.Out=true→x.Seg=-1∧x.Lo=0∧x.Hi=0)∧(x.Out=false→-1≤x.Seg∧x.Seg < k.Segments.length∧-288230376151711744≤x.Lo∧x.Lo≤x.Hi∧x.Hi≤288230376151711744)
theorem outcome_Check_eq {k:TClocks} {x:TOutcome} (hw:k.Segments.length < 9223372036854775807):M30 k x=chk (ClocksOK k) 160 (chk (OutOK k x) 230 (some 0)):=by
 unfold M30
 rw [clocks_Check_eq hw]
 by_cases hk:ClocksOK k
 ·rw [chk_pos hk,chk_pos hk,some_bind]
  simp only [bne_self_eq_false,cond_false]
  cases ho:x.Out with
  | true =>
   unfold OutOK M29
   rw [some_bind,ho]
   by_cases h:x.Seg=-1∧x.Lo=0∧x.Hi=0
   ·obtain ⟨h1,h2,h3⟩:=h
    rw [chk_pos (by simp [h1,h2,h3])]
    simp [h1,h2,h3]
   ·rw [chk_neg (by simpa using h)]
    rw [cond_true]
    have e:((true == true) && ((x.Seg == -1) && ((x.Lo == 0) && ((x.Hi == 0) && true))))=false:=by
     rw [← Bool.not_eq_true]
     intro h'
     simp at h'
     exact h h'
    rw [e]
    rfl
  | false =>
   unfold OutOK
   rw [ho]
   by_cases h:-1≤x.Seg∧x.Seg < k.Segments.length∧-288230376151711744≤x.Lo∧x.Lo≤x.Hi∧x.Hi≤288230376151711744
   ·rw [chk_pos (by simpa using h)]
    obtain ⟨h1,h2,h3,h4,h5⟩:=h
    simp [h1,h2,h3,h4,h5]
   ·rw [chk_neg (by simpa using h)]
    rw [cond_false]
    have e:((decide (x.Seg≥-1)) && ((decide (x.Seg < (k.Segments.length:Int))) && ((decide (x.Lo≥-288230376151711744)) && ((decide (x.Lo≤x.Hi)) && (decide (x.Hi≤288230376151711744))))))=false:=by
     rw [← Bool.not_eq_true]
     intro h'
     simp at h'
     exact h h'
    rw [e]
    rfl
 ·rw [chk_neg hk,chk_neg hk,some_bind]
  rfl
theorem ref23_Check_eq {k:TClocks} {x:TOutcome} (hw:k.Segments.length < 9223372036854775807):M169 k x=chk (ClocksOK k) 160 (chk (OutOK k x) 230 (some 0)):=by
 unfold M169
 rw [ref16_Check_eq hw]
 by_cases hk:ClocksOK k
 ·rw [chk_pos hk,chk_pos hk,some_bind]
  simp only [bne_self_eq_false,cond_false]
  cases ho:x.Out with
  | true =>
   unfold OutOK
   rw [ho,cond_true]
   by_cases h:x.Seg=-1∧x.Lo=0∧x.Hi=0
   ·obtain ⟨h1,h2,h3⟩:=h
    rw [chk_pos (by simp [h1,h2,h3])]
    simp [h1,h2,h3]
   ·rw [chk_neg (by simpa using h)]
    have e:((x.Seg != -1) || ((x.Lo != 0) || (x.Hi != 0)))=true:=by
     simp only [Bool.or_eq_true,bne_iff_ne]; omega
    rw [e]
    rfl
  | false =>
   unfold OutOK
   rw [ho,cond_false]
   by_cases h:-1≤x.Seg∧x.Seg < k.Segments.length∧-288230376151711744≤x.Lo∧x.Lo≤x.Hi∧x.Hi≤288230376151711744
   ·rw [chk_pos (by simpa using h)]
    have e:((decide (x.Seg < -1)) || ((decide (x.Seg≥(k.Segments.length:Int))) || ((decide (x.Lo < -288230376151711744)) || ((decide (x.Lo > x.Hi)) || (decide (x.Hi > 288230376151711744))))))=false:=by
     rw [← Bool.not_eq_true]
     simp only [Bool.or_eq_true,decide_eq_true_eq]; omega
    rw [e]
    rfl
   ·rw [chk_neg (by simpa using h)]
    have e:((decide (x.Seg < -1)) || ((decide (x.Seg≥(k.Segments.length:Int))) || ((decide (x.Lo < -288230376151711744)) || ((decide (x.Lo > x.Hi)) || (decide (x.Hi > 288230376151711744))))))=true:=by
     simp only [Bool.or_eq_true,decide_eq_true_eq]; omega
    rw [e]
    rfl
 ·rw [chk_neg hk,chk_neg hk,some_bind]
  rfl
theorem app_ok {α:Type} {b:Nat} {l r:List α} (h:(l.length+r.length) * b≤140737488355328) (h':l.length+r.length < 9223372036854775808):app b l r=some (l++r):=by
 unfold app; rw [if_pos ⟨h,h'⟩]
theorem flat_succ {α:Type} {ws:List (List α)} {i:Nat} (hi:i < ws.length):(ws.take (i+1)).flatten=(ws.take i).flatten++ws[i]:=by
 rw [List.take_succ_eq_append_getElem hi,List.flatten_append]; simp
theorem concat_eq {ws:List (List TOutcome)} (h1:ws.length≤1000) (h2:∀ w,w ∈ ws→w.length≤1000):M28 ws=some ws.flatten:=by
 have hw:∀ i (hi:i < ws.length),ws[i].length≤1000:=fun i hi=>h2 _ (List.getElem_mem hi)
 unfold M28
 simp only [fuel_sub]
 obtain ⟨r,hr,hr0,hr1⟩:=run_inv (N:=ws.length) (f:=fun n i s=>M25 ws n s (i:Int)) (I:=fun i s=>0≤s∧s≤1000 * (i:Int)) (s0:=0) (fun n i s hi hI=>by
  refine ⟨s+ws[i].length,?_,?_⟩
  ·have:=hw i hi; omega
  ·show M25 ws (n+1) s (i:Int)=M25 ws n (s+ws[i].length) ((i+1:Nat):Int)
   have:=hw i hi
   rw [M25,dec_lt_nat,decide_eq_true hi,cond_true,idx_lt hi,some_bind,w64_of (by omega) (by omega),bif_dec,if_neg (by omega),w64_succ (by omega)]) (fun n s=>by
  show M25 ws (n+1) s ((ws.length:Nat):Int)=_
  rw [M25]; simp) ⟨by omega,by omega⟩
 replace hr:M25 ws (ws.length+1) 0 0=some r:=hr
 rw [hr,some_bind,bif_dec,if_neg (by omega),w64_of (by omega) (by omega),bif_dec]
 have hI:∀ i (hi:i < ws.length),((ws.take i).flatten.length≤1000 * i)→((ws.take (i+1)).flatten.length≤1000 * (i+1)):=fun i hi h=>by
  rw [flat_succ hi,List.length_append]; have:=hw i hi; omega
 split
 ·have e:mkZ 32 (r - 0)=some r.toNat:=by
   unfold mkZ; rw [if_pos (by omega)]; simp
  rw [e,some_bind]
  have e2:∀ (l:List TOutcome),slcTo l 0=some []:=fun l=>by unfold slcTo; simp
  rw [e2,some_bind]
  obtain ⟨l,hl,rfl,_⟩:=run_inv (N:=ws.length) (f:=fun n i s=>M26 ws n (i:Int) s) (I:=fun i s=>s=(ws.take i).flatten∧s.length≤1000 * i) (s0:=[]) (fun n i s hi hI'=>by
   obtain ⟨rfl,hlen⟩:=hI'
   refine ⟨_,⟨rfl,hI i hi hlen⟩,?_⟩
   show M26 ws (n+1) (i:Int) _=M26 ws n ((i+1:Nat):Int) _
   have:=hw i hi
   rw [M26,dec_lt_nat,decide_eq_true hi,cond_true,idx_lt hi,some_bind,app_ok (by omega) (by omega),some_bind,w64_succ (by omega),flat_succ hi]) (fun n s=>by
   show M26 ws (n+1) ((ws.length:Nat):Int) s=_
   rw [M26]; simp) ⟨rfl,by simp⟩
  replace hl:M26 ws (ws.length+1) 0 []=some (ws.take ws.length).flatten:=hl
  rw [hl,some_bind,List.take_length]
 ·obtain ⟨l,hl,rfl,_⟩:=run_inv (N:=ws.length) (f:=fun n i s=>M27 ws n (i:Int) s) (I:=fun i s=>s=(ws.take i).flatten∧s.length≤1000 * i) (s0:=[]) (fun n i s hi hI'=>by
   obtain ⟨rfl,hlen⟩:=hI'
   refine ⟨_,⟨rfl,hI i hi hlen⟩,?_⟩
   show M27 ws (n+1) (i:Int) _=M27 ws n ((i+1:Nat):Int) _
   have:=hw i hi
   rw [M27,dec_lt_nat,decide_eq_true hi,cond_true,idx_lt hi,some_bind,app_ok (by omega) (by omega),some_bind,w64_succ (by omega),flat_succ hi]) (fun n s=>by
   show M27 ws (n+1) ((ws.length:Nat):Int) s=_
   rw [M27]; simp) ⟨rfl,by simp⟩
  replace hl:M27 ws (ws.length+1) 0 []=some (ws.take ws.length).flatten:=hl
  rw [hl,some_bind,List.take_length]
structure Small (f:TField):Prop where
 seg:f.Clocks.Segments.length≤1000
 pairs:f.Pairs.length≤1000
 runners:f.Runners.length≤1000000
 worlds:∀ r,r ∈ f.Runners→r.Keys.length≤1000∧r.Worlds.length≤1000∧∀ w,w ∈ r.Worlds→w.length≤1000
def PairLt (q p:TPair):Prop:=q.A < p.A∨q.A=p.A∧q.B < p.B
def PairOK (l:List TPair) (i:Nat):Prop:=∀ p,l[i]?=some p→1≤p.A∧p.A < p.B∧p.B≤9999∧(0 < i→∀ q,l[i - 1]?=some q→PairLt q p)
def lastP (l:List TPair) (i:Nat):TPair:=if i=0 then ⟨0,0⟩ else (l[i - 1]?).getD ⟨0,0⟩
theorem field_L1 {f:TField} {kk:Unit→Option Int} (hl:f.Pairs.length≤1000):M39 f kk (f.Pairs.length+1) 0 0 0=chk (∀ i,i < f.Pairs.length→PairOK f.Pairs i) 240 (kk ()):=by
 refine chk_loop (f:=fun n i=>M39 f kk n (i:Int) (lastP f.Pairs i).A (lastP f.Pairs i).B) (fun n i hi=>?_) (fun n=>?_)
 ·show M39 f kk (n+1) (i:Int) _ _=_
  rw [M39,dec_lt_nat,decide_eq_true hi,cond_true,idx_lt hi,some_bind,w64_succ (by omega)]
  have hx:f.Pairs[i]?=some f.Pairs[i]:=by simp [hi]
  have hnext:lastP f.Pairs (i+1)=f.Pairs[i]:=by unfold lastP; simp [hi]
  rw [hnext]
  generalize f.Pairs[i]=p at hx
  have hok:PairOK f.Pairs i↔1≤p.A∧p.A < p.B∧p.B≤9999∧(0 < i→∀ q,f.Pairs[i - 1]?=some q→PairLt q p):=by
   unfold PairOK; rw [hx]; simp
  have hlast:1≤p.A→((0 < i→∀ q,f.Pairs[i - 1]?=some q→PairLt q p)↔¬(p.A < (lastP f.Pairs i).A∨p.A=(lastP f.Pairs i).A∧p.B≤(lastP f.Pairs i).B)):=by
   intro hA
   unfold lastP PairLt
   by_cases h0:i=0
   ·subst h0; simp; omega
   ·have h8:i - 1 < f.Pairs.length:=by omega
    rw [if_neg h0,List.getElem?_eq_getElem h8]
    simp only [Option.getD_some,Option.some.injEq,forall_eq']
    constructor
    ·intro h; have:=h (by omega); omega
    ·intro h _; omega
  by_cases hOK:PairOK f.Pairs i
  ·rw [chk_pos hOK]
   obtain ⟨h1,h2,h3,h4⟩:=hok.1 hOK
   have h5:=(hlast h1).1 h4
   rw [Bool.cond_eq_ite,if_neg]
   simp only [Bool.or_eq_true,Bool.and_eq_true,decide_eq_true_eq,beq_iff_eq]
   omega
  ·rw [chk_neg hOK,Bool.cond_eq_ite,if_pos]
   simp only [Bool.or_eq_true,Bool.and_eq_true,decide_eq_true_eq,beq_iff_eq]
   by_cases h1:1≤p.A
   ·have h5:=hlast h1
    refine Classical.byContradiction fun h6=>hOK (hok.2 ⟨h1,by omega,by omega,h5.2 (by omega)⟩)
   ·left; omega
 ·show M39 f kk (n+1) ((f.Pairs.length:Nat):Int) _ _=_
  rw [M39]
  simp
theorem ref24_L1 {f:TField} {kk:Unit→Option Int} (hl:f.Pairs.length≤1000):M176 f kk (f.Pairs.length+1) 0=chk (∀ i,i < f.Pairs.length→PairOK f.Pairs i) 240 (kk ()):=by
 refine chk_loop (f:=fun n i=>M176 f kk n (i:Int)) (fun n i hi=>?_) (fun n=>?_)
 ·show M176 f kk (n+1) (i:Int)=_
  rw [M176,dec_lt_nat,decide_eq_true hi,cond_true,idx_lt hi,some_bind,w64_succ (by omega)]
  have hx:f.Pairs[i]?=some f.Pairs[i]:=by simp [hi]
  generalize f.Pairs[i]=p at hx
  have hok:PairOK f.Pairs i↔1≤p.A∧p.A < p.B∧p.B≤9999∧(0 < i→∀ q,f.Pairs[i - 1]?=some q→PairLt q p):=by
   unfold PairOK; rw [hx]; simp
  rw [bif_dec,bif_dec,bif_dec]
  by_cases h1:p.A < 1
  ·rw [if_pos h1,chk_neg (fun h=>by have:=hok.1 h; omega)]
  rw [if_neg h1]
  by_cases h2:p.A≥p.B
  ·rw [if_pos h2,chk_neg (fun h=>by have:=hok.1 h; omega)]
  rw [if_neg h2]
  by_cases h3:p.B > 9999
  ·rw [if_pos h3,chk_neg (fun h=>by have:=hok.1 h; omega)]
  rw [if_neg h3]
  refine bind_chk ?_
  rw [hok,bif_dec]
  by_cases h6:(i:Int) > 0
  ·have h7:0 < i:=by omega
   have h8:i - 1 < f.Pairs.length:=by omega
   rw [if_pos h6,pred_nat h7 (by omega),idx_lt h8,List.getElem?_eq_getElem h8]
   simp only [some_bind,bif_dec,bif_eq,Option.some.injEq,forall_eq']
   generalize f.Pairs[i - 1]=q
   unfold PairLt
   by_cases h9:q.A > p.A
   ·rw [if_pos h9]; exact ⟨true,rfl,by simp; omega⟩
   ·rw [if_neg h9]
    by_cases h10:q.A=p.A
    ·rw [if_pos h10]; refine ⟨_,rfl,?_⟩
     rw [decide_eq_true_iff]; omega
    ·rw [if_neg h10]; refine ⟨false,rfl,?_⟩
     simp; omega
  ·rw [if_neg h6]
   refine ⟨false,rfl,?_⟩
   simp only [Bool.false_eq_true,false_iff,Classical.not_not]
   exact ⟨by omega,by omega,by omega,fun h=>by omega⟩
 ·show M176 f kk (n+1) ((f.Pairs.length:Nat):Int)=_
  rw [M176]
  simp
theorem all_get {α:Type} {l:List α} {p:α→Prop}:(∀ j,j < l.length→∀ o,l[j]?=some o→p o)↔∀ o,o ∈ l→p o:=by
 constructor
 ·intro h o ho
  obtain ⟨j,hj,rfl⟩:=List.mem_iff_getElem.1 ho
  exact h j hj _ (by simp [hj])
 ·intro h j hj o ho
  exact h o (List.mem_of_getElem? ho)
theorem field_L3 {f:TField} {kk:Unit→Option Int} (hk:ClocksOK f.Clocks) {l:List TOutcome} (hl:l.length < 9223372036854775807):M40 f l kk (l.length+1) 0=chk (∀ o,o ∈ l→OutOK f.Clocks o) 240 (kk ()):=by
 refine (chk_loop (ok:=fun j=>∀ o,l[j]?=some o→OutOK f.Clocks o) (k:=kk ()) (r:=240) (f:=fun n i=>M40 f l kk n (i:Int)) (fun n i hi=>?_) (fun n=>?_)).trans (chk_congr all_get fun _=>rfl)
 ·show M40 f l kk (n+1) (i:Int)=_
  have hw:f.Clocks.Segments.length < 9223372036854775807:=by have:=hk.few; omega
  rw [M40,dec_lt_nat,decide_eq_true hi,cond_true,idx_lt hi,some_bind,w64_succ (by omega),outcome_Check_eq hw,chk_pos hk]
  have hx:l[i]?=some l[i]:=by simp [hi]
  rw [hx]
  by_cases h:OutOK f.Clocks l[i]
  ·rw [chk_pos h,some_bind,chk_pos (by simpa using h)]; rfl
  ·rw [chk_neg h,some_bind,chk_neg (by simpa using h)]; rfl
 ·show M40 f l kk (n+1) ((l.length:Nat):Int)=_
  rw [M40]
  simp
theorem ref24_L4 {f:TField} {kk:Unit→Option Int} (hk:ClocksOK f.Clocks) {x:TRunner} {i:Nat} {l:List TOutcome} (hx:idx x.Worlds (i:Int)=some l) (hl:l.length < 9223372036854775807):M177 f x i kk (l.length+1) 0=chk (∀ o,o ∈ l→OutOK f.Clocks o) 240 (kk ()):=by
 refine (chk_loop (ok:=fun j=>∀ o,l[j]?=some o→OutOK f.Clocks o) (k:=kk ()) (r:=240) (f:=fun n j=>M177 f x i kk n (j:Int)) (fun n j hj=>?_) (fun n=>?_)).trans (chk_congr all_get fun _=>rfl)
 ·show M177 f x i kk (n+1) (j:Int)=_
  have hw:f.Clocks.Segments.length < 9223372036854775807:=by have:=hk.few; omega
  rw [M177,hx,some_bind,dec_lt_nat,decide_eq_true hj,cond_true,some_bind,idx_lt hj,some_bind,w64_succ (by omega),ref23_Check_eq hw,chk_pos hk]
  have hx:l[j]?=some l[j]:=by simp [hj]
  rw [hx]
  by_cases h:OutOK f.Clocks l[j]
  ·rw [chk_pos h,some_bind,chk_pos (by simpa using h)]; rfl
  ·rw [chk_neg h,some_bind,chk_neg (by simpa using h)]; rfl
 ·show M177 f x i kk (n+1) ((l.length:Nat):Int)=_
  rw [M177,hx,some_bind]
  simp
theorem ref24_L3 {f:TField} {kk:Unit→Option Int} (hk:ClocksOK f.Clocks) {x:TRunner} (h1:x.Worlds.length≤1000) (h2:∀ w,w ∈ x.Worlds→w.length≤1000):M179 f x kk (x.Worlds.length+1) 0=chk (∀ w,w ∈ x.Worlds→∀ o,o ∈ w→OutOK f.Clocks o) 240 (kk ()):=by
 refine (chk_loop (ok:=fun j=>∀ w,x.Worlds[j]?=some w→∀ o,o ∈ w→OutOK f.Clocks o) (k:=kk ()) (r:=240) (f:=fun n j=>M179 f x kk n (j:Int)) (fun n j hj=>?_) (fun n=>?_)).trans (chk_congr all_get fun _=>rfl)
 ·show M179 f x kk (n+1) (j:Int)=_
  have hx:x.Worlds[j]?=some x.Worlds[j]:=by simp [hj]
  have hb:=h2 _ (List.getElem_mem hj)
  rw [M179,dec_lt_nat,decide_eq_true hj,cond_true,idx_lt hj,Option.getD_some,fuel_sub,ref24_L4 hk (idx_lt hj) (by omega)]
  show chk _ _ (M179 f x kk n (w64 ((j:Int)+1)))=_
  rw [w64_succ (by omega)]
  exact chk_congr (by rw [hx]; simp) fun _=>rfl
 ·show M179 f x kk (n+1) ((x.Worlds.length:Nat):Int)=_
  rw [M179]
  simp
def RunnerOK (f:TField) (i:Nat):Prop:=∀ r,f.Runners[i]?=some r→(1≤r.Bib∧r.Bib≤9999∧(0 < i→∀ q,f.Runners[i - 1]?=some q→q.Bib < r.Bib)∧(∀ z,f.Runners[0]?=some z→r.Keys.length=z.Keys.length)∧r.Worlds.length=f.Pairs.length+1)∧∀ w,w ∈ r.Worlds→∀ o,o ∈ w→OutOK f.Clocks o
def lastB (f:TField) (i:Nat):Int:=if i=0 then 0 else ((f.Runners[i - 1]?).map (·.Bib)).getD 0
theorem field_L2 {f:TField} {kk:Unit→Option Int} (hk:ClocksOK f.Clocks) (hs:Small f):M42 f kk (f.Runners.length+1) 0 0=chk (∀ i,i < f.Runners.length→RunnerOK f i) 240 (kk ()):=by
 refine chk_loop' (f:=fun n i=>M42 f kk n (lastB f i) (i:Int)) (fun n i hi hp=>?_) (fun n _=>?_)
 ·show M42 f kk (n+1) (lastB f i) (i:Int)=_
  have hsr:=hs.runners
  have hsp:=hs.pairs
  have h0:0 < f.Runners.length:=by omega
  rw [M42,dec_lt_nat,decide_eq_true hi,cond_true,idx_lt hi,some_bind,w64_succ (by omega)]
  have hx:f.Runners[i]?=some f.Runners[i]:=by simp [hi]
  have hz:idx f.Runners 0=some f.Runners[0]:=idx_lt (i:=0) h0
  have hz':f.Runners[0]?=some f.Runners[0]:=by simp [h0]
  rw [hz]
  have hnext:lastB f (i+1)=f.Runners[i].Bib:=by unfold lastB; simp [hi]
  obtain ⟨hw0,hw1,hw2⟩:=hs.worlds _ (List.getElem_mem hi)
  rw [hnext]
  generalize f.Runners[0]=z at hz'
  generalize f.Runners[i]=r at hx hw0 hw1 hw2
  have hok:RunnerOK f i↔(1≤r.Bib∧r.Bib≤9999∧(0 < i→∀ q,f.Runners[i - 1]?=some q→q.Bib < r.Bib)∧r.Keys.length=z.Keys.length∧r.Worlds.length=f.Pairs.length+1)∧∀ w,w ∈ r.Worlds→∀ o,o ∈ w→OutOK f.Clocks o:=by
   unfold RunnerOK; rw [hx,hz']; simp
  have hlast:lastB f i < r.Bib↔1≤r.Bib∧(0 < i→∀ q,f.Runners[i - 1]?=some q→q.Bib < r.Bib):=by
   unfold lastB
   by_cases h0:i=0
   ·subst h0; simp; omega
   ·have h8:i - 1 < f.Runners.length:=by omega
    have:=hp (i - 1) (by omega)
    unfold RunnerOK at this
    rw [List.getElem?_eq_getElem h8] at this
    have h9:=(this _ rfl).1.1
    rw [if_neg h0,List.getElem?_eq_getElem h8]
    simp only [Option.map_some,Option.getD_some,Option.some.injEq,forall_eq']
    constructor
    ·intro h; exact ⟨by omega,fun _=>h⟩
    ·intro h; exact h.2 (by omega)
  have hfin:(lastB f i < r.Bib∧r.Bib≤9999∧r.Keys.length=z.Keys.length∧r.Worlds.length=f.Pairs.length+1)∧(∀ w,w ∈ r.Worlds→∀ o,o ∈ w→OutOK f.Clocks o)↔RunnerOK f i:=by
   rw [hok,hlast]
   constructor
   ·rintro ⟨⟨⟨a,b⟩,c,d,e⟩,g⟩; exact ⟨⟨a,c,b,d,e⟩,g⟩
   ·rintro ⟨⟨a,c,b,d,e⟩,g⟩; exact ⟨⟨⟨a,b⟩,c,d,e⟩,g⟩
  refine Eq.trans (bind_chk (p:=lastB f i < r.Bib∧r.Bib≤9999∧r.Keys.length=z.Keys.length∧r.Worlds.length=f.Pairs.length+1) ?_) (Eq.trans (chk_and' fun h=>?_) (chk_congr hfin fun _=>rfl))
  ·rw [bif_dec,bif_dec,some_bind,bif_ne]
   by_cases h1:r.Bib≤lastB f i
   ·rw [if_pos h1]; exact ⟨true,rfl,by simp; omega⟩
   rw [if_neg h1]
   by_cases h2:r.Bib > 9999
   ·rw [if_pos h2]; exact ⟨true,rfl,by simp; omega⟩
   rw [if_neg h2]
   by_cases h3:r.Keys.length=z.Keys.length
   ·rw [if_pos (by omega)]
    refine ⟨_,rfl,?_⟩
    rw [bne_iff_ne]
    omega
   ·rw [if_neg (by omega)]; exact ⟨true,rfl,by simp [h3]⟩
  ·rw [concat_eq hw1 hw2,some_bind,fuel_sub,field_L3 hk (by
    have:∀ (ws:List (List TOutcome)),(∀ w,w ∈ ws→w.length≤1000)→ws.flatten.length≤1000 * ws.length:=by
     intro ws
     induction ws with
     | nil=>intro _; simp
     | cons a t ih =>
      intro h
      have h1:=ih (fun w hw=>h w (by simp [hw]))
      have h2:=h a (by simp)
      simp only [List.flatten_cons,List.length_append,List.length_cons]
      omega
    have:=this r.Worlds hw2
    omega)]
   refine chk_congr ?_ fun _=>?_
   ·simp only [List.mem_flatten]
    exact ⟨fun h w hw o ho=>h o ⟨w,hw,ho⟩,fun h o ⟨w,hw,ho⟩=>h w hw o ho⟩
   ·show M42 f kk n r.Bib (w64 ((i:Int)+1))=_
    rw [w64_succ (by omega)]
 ·show M42 f kk (n+1) _ ((f.Runners.length:Nat):Int)=_
  rw [M42]
  simp
theorem bib_eq (n:Int):M168 n=some (decide (1≤n∧n≤9999)):=by
 unfold M168 M167
 rw [bif_dec]
 by_cases h:1≤n
 ·rw [if_pos (by omega)]; simp [h]
 ·rw [if_neg (by omega)]; simp [h]
theorem ref24_L2 {f:TField} {kk:Unit→Option Int} (hk:ClocksOK f.Clocks) (hs:Small f):M181 f kk (f.Runners.length+1) 0=chk (∀ i,i < f.Runners.length→RunnerOK f i) 240 (kk ()):=by
 refine chk_loop (f:=fun n i=>M181 f kk n (i:Int)) (fun n i hi=>?_) (fun n=>?_)
 ·show M181 f kk (n+1) (i:Int)=_
  have hsr:=hs.runners
  have hsp:=hs.pairs
  have h0:0 < f.Runners.length:=by omega
  rw [M181,dec_lt_nat,decide_eq_true hi,cond_true,idx_lt hi,some_bind]
  have hx:f.Runners[i]?=some f.Runners[i]:=by simp [hi]
  have hz:idx f.Runners 0=some f.Runners[0]:=idx_lt (i:=0) h0
  have hz':f.Runners[0]?=some f.Runners[0]:=by simp [h0]
  rw [hz]
  obtain ⟨hw0,hw1,hw2⟩:=hs.worlds _ (List.getElem_mem hi)
  generalize f.Runners[0]=z at hz'
  generalize f.Runners[i]=r at hx hw0 hw1 hw2
  have hok:((1≤r.Bib∧r.Bib≤9999∧(0 < i→∀ q,f.Runners[i - 1]?=some q→q.Bib < r.Bib)∧r.Keys.length=z.Keys.length∧r.Worlds.length=f.Pairs.length+1)∧∀ w,w ∈ r.Worlds→∀ o,o ∈ w→OutOK f.Clocks o)↔RunnerOK f i:=by
   unfold RunnerOK; rw [hx,hz']; simp
  refine Eq.trans (bind_chk (p:=1≤r.Bib∧r.Bib≤9999∧(0 < i→∀ q,f.Runners[i - 1]?=some q→q.Bib < r.Bib)∧r.Keys.length=z.Keys.length∧r.Worlds.length=f.Pairs.length+1) ?_) (Eq.trans (chk_and' fun h=>?_) (chk_congr hok fun _=>rfl))
  ·rw [bib_eq,some_bind,bif_dec]
   by_cases h1:1≤r.Bib∧r.Bib≤9999
   ·rw [decide_eq_true h1,Bool.not_true,cond_false]
    by_cases h6:(i:Int) > 0
    ·have h7:0 < i:=by omega
     have h8:i - 1 < f.Runners.length:=by omega
     rw [if_pos h6,pred_nat h7 (by omega),idx_lt h8,List.getElem?_eq_getElem h8]
     simp only [some_bind,bif_dec,bif_ne,Option.some.injEq,forall_eq']
     generalize f.Runners[i - 1]=q
     by_cases h9:q.Bib≥r.Bib
     ·rw [if_pos h9]; exact ⟨true,rfl,by simp; omega⟩
     ·rw [if_neg h9]
      by_cases h10:r.Keys.length=z.Keys.length
      ·rw [if_pos (by omega)]; refine ⟨_,rfl,?_⟩
       rw [w64_succ (by omega),bne_iff_ne]; omega
      ·rw [if_neg (by omega)]; exact ⟨true,rfl,by simp [h10]⟩
    ·rw [if_neg h6,some_bind,bif_ne]
     have h7:¬0 < i:=by omega
     by_cases h10:r.Keys.length=z.Keys.length
     ·rw [if_pos (by omega)]; refine ⟨_,rfl,?_⟩
      rw [w64_succ (by omega),bne_iff_ne]; omega
     ·rw [if_neg (by omega)]; exact ⟨true,rfl,by simp [h10]⟩
   ·rw [decide_eq_false h1,Bool.not_false,cond_true]
    exact ⟨true,rfl,by simp; omega⟩
  ·rw [fuel_sub,ref24_L3 hk hw1 hw2]
   show chk _ _ (M181 f kk n (w64 ((i:Int)+1)))=_
   rw [w64_succ (by omega)]
 ·show M181 f kk (n+1) ((f.Runners.length:Nat):Int)=_
  rw [M181]
  simp
def wl (l:List TRunner) (i w:Nat):List TOutcome:=((l[i]?).bind fun r=>r.Worlds[w]?).getD []
theorem wl_get {l:List TRunner} {i w:Nat} (hi:i < l.length) (hw:w < l[i].Worlds.length):idx l[i].Worlds (w:Int)=some (wl l i w):=by
 rw [idx_lt hw]; unfold wl; simp [hi,hw]
def Poss (l:List TRunner) (w:Nat):Prop:=∀ i,i < l.length→(wl l i w).length≠0
theorem containsF_eq {l:List TRunner} {w:Nat} (hl:l.length≤1000000) (hw:∀ r,r ∈ l→w < r.Worlds.length):∃ b,M35 l (w:Int)=some b∧(b=true↔¬Poss l w):=by
 unfold M35 M34
 rw [fuel_sub]
 obtain ⟨r,h1,h2⟩:=find_loop (N:=l.length) (f:=fun n i=>M32 l (w:Int) M33 n (i:Int)) (p:=fun i=>(wl l i w).length=0) (fun n i hi=>by
  show M32 l (w:Int) _ (n+1) (i:Int)=_
  rw [M32,dec_lt_nat,decide_eq_true hi,cond_true,idx_lt hi,some_bind,w64_succ (by omega)]
  unfold M31
  rw [wl_get hi (hw _ (List.getElem_mem hi)),some_bind,some_bind,bif_eq]
  by_cases h:(wl l i w).length=0
  ·rw [if_pos h,if_pos (by omega)]
  ·rw [if_neg h,if_neg (by omega)]) (fun n=>by
  show M32 l (w:Int) _ (n+1) ((l.length:Nat):Int)=_
  rw [M32]
  simp [M33])
 refine ⟨decide (r≥0),?_,?_⟩
 ·have h1:M32 l (w:Int) M33 (l.length+1) 0=some r:=h1
  rw [h1]; rfl
 ·rw [decide_eq_true_iff,h2]
  unfold Poss
  simp only [Classical.not_forall,Classical.not_not,exists_prop]
theorem field_possible_eq {f:TField} (hs:Small f) (hr:∀ r,r ∈ f.Runners→r.Worlds.length=f.Pairs.length+1):M38 f=chk (∀ w,w < f.Pairs.length+1→¬Poss f.Runners w) true (some false):=by
 have hsr:=hs.runners
 have hsp:=hs.pairs
 unfold M38
 rw [w64_succ (by omega),fuel_sub]
 refine chk_loop (N:=f.Pairs.length+1) (f:=fun n w=>M36 f M37 n (w:Int)) (fun n w hw=>?_) (fun n=>?_)
 ·show M36 f M37 (n+1) (w:Int)=_
  obtain ⟨b,h1,h2⟩:=containsF_eq hsr (w:=w) (fun r h=>by rw [hr r h]; exact hw)
  rw [M36,w64_succ (by omega),dec_lt_nat,decide_eq_true hw,cond_true,h1,some_bind,w64_succ (by omega)]
  cases b with
  | true=>rw [chk_pos (h2.1 rfl)]; rfl
  | false=>rw [chk_neg (fun h=>by simpa using h2.2 h)]; rfl
 ·show M36 f M37 (n+1) ((f.Pairs.length+1:Nat):Int)=_
  rw [M36,w64_succ (by omega)]
  simp [M37]
theorem ref24_Possible_eq {f:TField} (hs:Small f) (hr:∀ r,r ∈ f.Runners→r.Worlds.length=f.Pairs.length+1) {w:Nat} (hw:w < f.Pairs.length+1):M172 f (w:Int)=chk (Poss f.Runners w) false (some true):=by
 have hsr:=hs.runners
 have hsp:=hs.pairs
 unfold M172
 rw [fuel_sub]
 refine chk_loop (f:=fun n i=>M170 f (w:Int) M171 n (i:Int)) (fun n i hi=>?_) (fun n=>?_)
 ·show M170 f (w:Int) M171 (n+1) (i:Int)=_
  have hwi:w < f.Runners[i].Worlds.length:=by rw [hr _ (List.getElem_mem hi)]; exact hw
  rw [M170,dec_lt_nat,decide_eq_true hi,cond_true,bif_dec,if_neg (by omega),idx_lt hi,some_bind,bif_dec,if_neg (by omega),some_bind,wl_get hi hwi,some_bind,bif_eq,w64_succ (by omega)]
  by_cases h:(wl f.Runners i w).length=0
  ·rw [if_pos (by omega),chk_neg (fun h'=>h' h)]
  ·rw [if_neg (by omega),chk_pos h]
 ·show M170 f (w:Int) M171 (n+1) ((f.Runners.length:Nat):Int)=_
  rw [M170]
  simp [M171]
theorem ref24_possible_eq {f:TField} (hs:Small f) (hr:∀ r,r ∈ f.Runners→r.Worlds.length=f.Pairs.length+1):M175 f=chk (∀ w,w < f.Pairs.length+1→¬Poss f.Runners w) true (some false):=by
 have hsr:=hs.runners
 have hsp:=hs.pairs
 unfold M175
 rw [fuel_add]
 refine chk_loop (N:=f.Pairs.length+1) (f:=fun n w=>M173 f M174 n (w:Int)) (fun n w hw=>?_) (fun n=>?_)
 ·show M173 f M174 (n+1) (w:Int)=_
  rw [M173,dec_le_nat,decide_eq_true hw,cond_true,ref24_Possible_eq hs hr hw,w64_succ (by omega)]
  by_cases h:Poss f.Runners w
  ·rw [chk_pos h,chk_neg (fun h'=>h' h)]; rfl
  ·rw [chk_neg h,chk_pos h]; rfl
 ·show M173 f M174 (n+1) ((f.Pairs.length+1:Nat):Int)=_
  rw [M173,dec_le_nat]
  simp [M174]
structure FieldOK (f:TField):Prop where
 clocks:ClocksOK f.Clocks
 size:f.Pairs.length≤16∧1≤f.Runners.length∧f.Runners.length≤4000
 pair:∀ i,i < f.Pairs.length→PairOK f.Pairs i
 runner:∀ i,i < f.Runners.length→RunnerOK f i
 poss:¬∀ w,w < f.Pairs.length+1→¬Poss f.Runners w
theorem worlds_of {f:TField} (h:∀ i,i < f.Runners.length→RunnerOK f i):∀ r,r ∈ f.Runners→r.Worlds.length=f.Pairs.length+1:=by
 intro r hr
 obtain ⟨i,hi,rfl⟩:=List.mem_iff_getElem.1 hr
 exact (h i hi _ (by simp [hi])).1.2.2.2.2
theorem fieldOK_iff (f:TField):(ClocksOK f.Clocks∧f.Pairs.length≤16∧1≤f.Runners.length∧f.Runners.length≤4000)∧(∀ i,i < f.Pairs.length→PairOK f.Pairs i)∧(∀ i,i < f.Runners.length→RunnerOK f i)∧(¬∀ w,w < f.Pairs.length+1→¬Poss f.Runners w)↔FieldOK f :=
 ⟨fun ⟨⟨a,b⟩,c,d,e⟩=>⟨a,b,c,d,e⟩,fun ⟨a,b,c,d,e⟩=>⟨⟨a,b⟩,c,d,e⟩⟩
theorem field_Check_eq {f:TField} (hs:Small f):M45 f=chk (FieldOK f) 240 (some 0):=by
 have hsg:=hs.seg
 unfold M45
 refine Eq.trans (bind_chk (p:=ClocksOK f.Clocks∧f.Pairs.length≤16∧1≤f.Runners.length∧f.Runners.length≤4000) ?_) (Eq.trans (chk_and' (q:=(∀ i,i < f.Pairs.length→PairOK f.Pairs i)∧(∀ i,i < f.Runners.length→RunnerOK f i)∧(¬∀ w,w < f.Pairs.length+1→¬Poss f.Runners w)) fun h=>?_) (chk_congr (fieldOK_iff f) fun _=>rfl))
 ·rw [clocks_Check_eq (by omega)]
  by_cases h1:ClocksOK f.Clocks
  ·rw [chk_pos h1,some_bind,bif_dec,bif_dec]
   simp only [bne_self_eq_false,cond_false]
   by_cases h2:f.Pairs.length≤16
   ·rw [if_neg (by omega)]
    by_cases h3:1≤f.Runners.length
    ·rw [if_neg (by omega)]
     refine ⟨_,rfl,?_⟩
     rw [decide_eq_true_iff]
     simp only [h1,h2,h3,true_and]
     omega
    ·rw [if_pos (by omega)]; exact ⟨true,rfl,by simp [h3]⟩
   ·rw [if_pos (by omega)]; exact ⟨true,rfl,by simp [h2]⟩
  ·rw [chk_neg h1,some_bind]; exact ⟨true,rfl,by simp [h1]⟩
 ·rw [fuel_sub,field_L1 hs.pairs]
  refine chk_and' fun h2=>?_
  show M42 f (M43 f) _ 0 0=_
  rw [fuel_sub,field_L2 h.1 hs]
  refine chk_and' fun h3=>?_
  unfold M43
  rw [field_possible_eq hs (worlds_of h3)]
  by_cases h4:∀ w,w < f.Pairs.length+1→¬Poss f.Runners w
  ·rw [chk_pos h4,chk_neg (fun h=>h h4)]; rfl
  ·rw [chk_neg h4,chk_pos h4]; rfl
theorem ref24_Check_eq {f:TField} (hs:Small f):M184 f=chk (FieldOK f) 240 (some 0):=by
 have hsg:=hs.seg
 unfold M184
 refine Eq.trans (bind_chk (p:=ClocksOK f.Clocks∧f.Pairs.length≤16∧1≤f.Runners.length∧f.Runners.length≤4000) ?_) (Eq.trans (chk_and' (q:=(∀ i,i < f.Pairs.length→PairOK f.Pairs i)∧(∀ i,i < f.Runners.length→RunnerOK f i)∧(¬∀ w,w < f.Pairs.length+1→¬Poss f.Runners w)) fun h=>?_) (chk_congr (fieldOK_iff f) fun _=>rfl))
 ·rw [ref16_Check_eq (by omega)]
  by_cases h1:ClocksOK f.Clocks
  ·rw [chk_pos h1,some_bind,bif_dec,bif_dec]
   simp only [bne_self_eq_false,cond_false]
   by_cases h2:f.Pairs.length≤16
   ·rw [if_neg (by omega)]
    by_cases h3:1≤f.Runners.length
    ·rw [if_neg (by omega)]
     refine ⟨_,rfl,?_⟩
     rw [decide_eq_true_iff]
     simp only [h1,h2,h3,true_and]
     omega
    ·rw [if_pos (by omega)]; exact ⟨true,rfl,by simp [h3]⟩
   ·rw [if_pos (by omega)]; exact ⟨true,rfl,by simp [h2]⟩
  ·rw [chk_neg h1,some_bind]; exact ⟨true,rfl,by simp [h1]⟩
 ·rw [fuel_sub,ref24_L1 hs.pairs]
  refine chk_and' fun h2=>?_
  show M181 f (M182 f) _ 0=_
  rw [fuel_sub,ref24_L2 h.1 hs]
  refine chk_and' fun h3=>?_
  unfold M182
  rw [ref24_possible_eq hs (worlds_of h3)]
  by_cases h4:∀ w,w < f.Pairs.length+1→¬Poss f.Runners w
  ·rw [chk_pos h4,chk_neg (fun h=>h h4)]; rfl
  ·rw [chk_neg h4,chk_pos h4]; rfl
theorem wl_mem {f:TField} (hf:FieldOK f) {i w:Nat} (hi:i < f.Runners.length) (hw:w < f.Pairs.length+1):wl f.Runners i w ∈ f.Runners[i].Worlds∧idx f.Runners[i].Worlds (w:Int)=some (wl f.Runners i w):=by
 have hl:=worlds_of hf.runner _ (List.getElem_mem hi)
 have hw':w < f.Runners[i].Worlds.length:=by omega
 refine ⟨?_,wl_get hi hw'⟩
 unfold wl
 simp [hi,hw']
theorem wl_ok {f:TField} (hf:FieldOK f) {i w:Nat} (hi:i < f.Runners.length) (hw:w < f.Pairs.length+1):∀ o,o ∈ wl f.Runners i w→OutOK f.Clocks o :=
 fun o ho=>(hf.runner i hi _ (by simp [hi])).2 _ (wl_mem hf hi hw).1 o ho
def FewR (r:TRunner):Prop:=r.Keys.length≤5∧r.Worlds.length≤4∧∀ w,w ∈ r.Worlds→w.length≤4
structure FewOK (f:TField):Prop where
 runner:∀ r,r ∈ f.Runners→FewR r
 far:∀ r,r ∈ f.Clocks.Far→r.length≤8
 runners:f.Runners.length≤6
 pairs:f.Pairs.length≤3
 segs:f.Clocks.Segments.length≤4
 rows:f.Clocks.Far.length≤6
theorem FewOK.small {f:TField} (h:FewOK f):Small f where
 seg:=by have:=h.segs; omega
 pairs:=by have:=h.pairs; omega
 runners:=by have:=h.runners; omega
 worlds r hr:=by
  obtain ⟨h1,h2,h3⟩:=h.runner r hr
  exact ⟨by omega,by omega,fun w hw=>by have:=h3 w hw; omega⟩
theorem w64_id {n:Int} (h:-9223372036854775808≤n∧n≤9223372036854775807):w64 n=n:=w64_of h.1 h.2
theorem inv_loop {σ β:Type} {N:Nat} {f:Nat→Nat→σ→Option β} {k:σ→Option β} {I:Nat→σ→Prop} (hs:∀ i s,i < N→I i s→∃ s',I (i+1) s'∧∀ n,f (n+1) i s=f n (i+1) s') (he:∀ n s,f (n+1) N s=k s) {s0:σ} (h0:I 0 s0) :
  ∃ s,f (N+1) 0 s0=k s∧I N s:=by
 have key:∀ c i n s,i+c=N→c≤n→I i s→∃ s',f (n+1) i s=k s'∧I N s':=by
  intro c
  induction c with
  | zero =>
   intro i n s h _ hi
   have:i=N:=by omega
   subst this
   exact ⟨s,he n s,hi⟩
  | succ c ih =>
   intro i n s h hn hi
   obtain ⟨s',h1,h2⟩:=hs i s (by omega) hi
   obtain ⟨n,rfl⟩:∃ n',n=n'+1:=⟨n - 1,by omega⟩
   rw [h2]
   exact ih (i+1) n s' (by omega) (by omega) h1
 exact key N 0 N s0 (by omega) (by omega) h0
abbrev far (f:TField) (i j:Nat):Int:=at2 f.Clocks.Far i j
abbrev nrun (f:TField):Nat:=f.Runners.length
abbrev npair (f:TField):Nat:=f.Pairs.length
def Occ (f:TField) (r w i:Nat) (x:TOutcome):Prop:=w < npair f+1∧Poss f.Runners w∧(wl f.Runners r w)[i]?=some x
def Vis (f:TField) (r w i:Nat) (w' i':Nat) (x:TOutcome):Prop:=(w' < w∨w'=w∧i' < i)∧Occ f r w' i' x
theorem Occ.ok {f:TField} (hf:FieldOK f) {r w i:Nat} {x:TOutcome} (hr:r < nrun f) (h:Occ f r w i x):OutOK f.Clocks x :=
 wl_ok hf hr h.1 _ (List.mem_of_getElem? h.2.2)
theorem Vis.next {f:TField} {r w:Nat} (w' i':Nat) (x':TOutcome):Vis f r (w+1) 0 w' i' x'↔Vis f r w (wl f.Runners r w).length w' i' x':=by
 unfold Vis
 constructor
 ·rintro ⟨h1,h2⟩
  refine ⟨?_,h2⟩
  by_cases e:w'=w
  ·subst e
   exact .inr ⟨rfl,(List.getElem?_eq_some_iff.1 h2.2.2).1⟩
  ·omega
 ·rintro ⟨h1,h2⟩; exact ⟨by omega,h2⟩
abbrev Occs:=Nat→Nat→TOutcome→Prop
def Same (V V':Occs):Prop:=∀ w i x,V w i x↔V' w i x
def IsLo (N:Nat→TOutcome→Int) (V:Occs) (lo:Int):Prop:=(lo=0∧∀ w i x,V w i x→x.Out=true)∨((∃ w i x,V w i x∧x.Out=false∧lo=N w x)∧∀ w i x,V w i x→x.Out=false→lo≤N w x)
def IsHi (N:Nat→TOutcome→Int) (V:Occs) (hi:Int):Prop:=(hi=0∧∀ w i x,V w i x→x.Out=true)∨((∃ w i x,V w i x∧x.Out=false∧hi=N w x)∧∀ w i x,V w i x→x.Out=false→N w x≤hi)
theorem Same.lo {N:Nat→TOutcome→Int} {V V':Occs} (h:Same V V') {lo:Int} (hl:IsLo N V lo):IsLo N V' lo:=by
 rcases hl with ⟨h1,h2⟩ | ⟨⟨w,i,x,h1,h2,h3⟩,h4⟩
 ·exact .inl ⟨h1,fun w i x hv=>h2 w i x ((h w i x).2 hv)⟩
 ·exact .inr ⟨⟨w,i,x,(h w i x).1 h1,h2,h3⟩,fun w i x hv=>h4 w i x ((h w i x).2 hv)⟩
theorem Same.hi {N:Nat→TOutcome→Int} {V V':Occs} (h:Same V V') {hi:Int} (hl:IsHi N V hi):IsHi N V' hi:=by
 rcases hl with ⟨h1,h2⟩ | ⟨⟨w,i,x,h1,h2,h3⟩,h4⟩
 ·exact .inl ⟨h1,fun w i x hv=>h2 w i x ((h w i x).2 hv)⟩
 ·exact .inr ⟨⟨w,i,x,(h w i x).1 h1,h2,h3⟩,fun w i x hv=>h4 w i x ((h w i x).2 hv)⟩
theorem chk_bool (p:Prop):∃ b,chk p false (some true)=some b∧(b=true↔p):=by
 by_cases h:p
 ·exact ⟨true,chk_pos h,by simp [h]⟩
 ·exact ⟨false,chk_neg h,by simp [h]⟩
theorem few16_eq {k:TClocks} (hw:wTClocks k):∃ b,M144 k=some b∧(b=true→k.Segments.length≤8∧k.Far.length≤10):=by
 obtain ⟨hsg,hfar⟩:=hw
 unfold M144
 rw [bif_dec,bif_dec]
 by_cases h1:k.Segments.length≤8
 ·rw [if_neg (by omega)]
  by_cases h2:k.Far.length≤10
  ·rw [if_neg (by omega),fuel_sub]
   obtain ⟨b,hb1,_⟩:=chk_bool (∀ i,i < k.Far.length→∀ r,k.Far[i]?=some r→r.length≤12)
   refine ⟨b,(chk_loop (N:=k.Far.length) (f:=fun n i=>M142 k M143 n (i:Int)) (r:=false) (k:=some true) (ok:=fun i=>∀ r,k.Far[i]?=some r→r.length≤12) (fun n i hi=>?_) (fun n=>?_)).trans hb1,fun _=>⟨h1,h2⟩⟩
   ·show M142 k M143 (n+1) (i:Int)=_
    have hx:k.Far[i]?=some k.Far[i]:=by simp [hi]
    rw [M142,dec_lt_nat,decide_eq_true hi,cond_true,idx_lt hi,some_bind,bif_dec,w64_succ (by omega),hx]
    generalize k.Far[i]=r
    simp only [Option.some.injEq,forall_eq']
    by_cases h3:r.length≤12
    ·rw [if_neg (by omega),chk_pos h3]
    ·rw [if_pos (by omega),chk_neg h3]
   ·show M142 k M143 (n+1) ((k.Far.length:Nat):Int)=_
    rw [M142]; simp [M143]
  ·rw [if_pos (by omega)]; exact ⟨false,rfl,fun h=>by cases h⟩
 ·rw [if_pos (by omega)]; exact ⟨false,rfl,fun h=>by cases h⟩
theorem few24_L2 {x:TRunner} (hx:x.Worlds.length≤5) (hl:∀ w,w ∈ x.Worlds→w.length≤140737488351232) {c:Int} (hc:0≤c∧c≤6000000000000000) :
  ∃ s:Int,M145 x (x.Worlds.length+1) c 0=some s∧c≤s∧s≤c+5 * 140737488351232∧∀ w,w ∈ x.Worlds→(w.length:Int)≤s:=by
 obtain ⟨s,h1,h2⟩:=inv_loop (N:=x.Worlds.length) (f:=fun n i (s:Int)=>M145 x n s (i:Int)) (k:=some) (I:=fun i s=>c≤s∧s≤c+i * 140737488351232∧∀ j,j < i→∀ w,x.Worlds[j]?=some w→(w.length:Int)≤s) (s0:=c) (fun i s hi hI=>by
  obtain ⟨h1,h2,h3⟩:=hI
  have hw:=hl _ (List.getElem_mem hi)
  refine ⟨s+((x.Worlds[i]).length:Int),⟨by omega,by have:((i+1:Nat):Int)=(i:Int)+1:=rfl; rw [this]; omega,fun j hj w hjw=>?_⟩,fun n=>?_⟩
  ·by_cases e:j=i
   ·subst e
    rw [List.getElem?_eq_getElem hi] at hjw
    cases hjw
    omega
   ·have:=h3 j (by omega) w hjw
    omega
  ·show M145 x (n+1) s (i:Int)=_
   rw [M145,dec_lt_nat,decide_eq_true hi,cond_true,idx_lt hi,some_bind,w64_succ (by omega),w64_of (by omega) (by omega)]) (fun n s=>by
  show M145 x (n+1) s ((x.Worlds.length:Nat):Int)=_
  rw [M145]; simp) ⟨by omega,by omega,fun j hj=>absurd hj (by omega)⟩
 refine ⟨s,h1,h2.1,by have:=h2.2.1; omega,fun w hw=>?_⟩
 obtain ⟨j,hj,rfl⟩:=List.mem_iff_getElem.1 hw
 exact h2.2.2 j hj _ (by simp [hj])
theorem few24_eq {f:TField} (hw:wTField f):∃ b,M148 f=some b∧(b=true→Small f∧f.Runners.length≤6∧f.Pairs.length≤3∧f.Clocks.Segments.length≤8∧f.Clocks.Far.length≤10∧∀ r,r ∈ f.Runners→r.Keys.length≤8∧r.Worlds.length≤5∧∀ w,w ∈ r.Worlds→w.length≤60):=by
 obtain ⟨hk,_,hrun⟩:=hw
 unfold M148
 rw [bif_dec,bif_dec]
 by_cases h1:f.Runners.length≤6
 ·rw [if_neg (by omega)]
  by_cases h2:f.Pairs.length≤3
  ·rw [if_neg (by omega)]
   obtain ⟨b,h3,h4⟩:=few16_eq hk
   rw [h3,some_bind]
   cases b with
   | false=>exact ⟨false,rfl,fun h=>by cases h⟩
   | true =>
    obtain ⟨h5,h6⟩:=h4 rfl
    simp only [Bool.not_true,cond_false]
    rw [fuel_sub]
    have key:∀ c i n (s:Int),i+c=f.Runners.length→c≤n→0≤s→s≤i * (5 * 140737488351232)→(∀ j,j < i→∀ r,f.Runners[j]?=some r→r.Keys.length≤8∧r.Worlds.length≤5∧∀ w,w ∈ r.Worlds→(w.length:Int)≤s) →
      ∃ b,M146 f M147 (n+1) s (i:Int)=some b∧(b=true→∀ r,r ∈ f.Runners→r.Keys.length≤8∧r.Worlds.length≤5∧∀ w,w ∈ r.Worlds→w.length≤60):=by
     intro c
     induction c with
     | zero =>
      intro i n s h _ _ _ hI
      have:i=f.Runners.length:=by omega
      subst this
      rw [M146,dec_lt_nat,decide_eq_false (by omega),cond_false]
      refine ⟨_,rfl,fun hb r hr=>?_⟩
      have hs:s≤60:=by simpa using hb
      obtain ⟨j,hj,rfl⟩:=List.mem_iff_getElem.1 hr
      obtain ⟨a,b,c⟩:=hI j hj _ (List.getElem?_eq_getElem hj)
      exact ⟨a,b,fun w hw=>by have:=c w hw; omega⟩
     | succ c ih =>
      intro i n s h hn hs0 hs1 hI
      obtain ⟨n,rfl⟩:∃ n',n=n'+1:=⟨n - 1,by omega⟩
      have hi:i < f.Runners.length:=by omega
      have hrw:=hrun.2 _ (List.getElem_mem hi)
      rw [M146,dec_lt_nat,decide_eq_true hi,cond_true,idx_lt hi,some_bind,bif_dec,bif_dec,fuel_sub]
      have hx:f.Runners[i]?=some f.Runners[i]:=by simp [hi]
      generalize f.Runners[i]=r at hx hrw
      by_cases g1:r.Keys.length≤8
      ·rw [if_neg (by omega)]
       by_cases g2:r.Worlds.length≤5
       ·rw [if_neg (by omega)]
        obtain ⟨s',k1,k2,k3,k4⟩:=few24_L2 g2 (fun w hw=>(hrw.2.2.2 w hw).1) (c:=s) ⟨hs0,by omega⟩
        rw [k1,some_bind,w64_succ (by omega)]
        refine ih (i+1) n s' (by omega) (by omega) (by omega) (by have:((i+1:Nat):Int)=(i:Int)+1:=rfl; rw [this]; omega) fun j hj q hq=>?_
        by_cases e:j=i
        ·subst e
         rw [hx] at hq; cases hq
         exact ⟨g1,g2,k4⟩
        ·obtain ⟨a,b,c⟩:=hI j (by omega) q hq
         exact ⟨a,b,fun w hw=>by have:=c w hw; omega⟩
       ·rw [if_pos (by omega)]; exact ⟨false,rfl,fun h=>by cases h⟩
      ·rw [if_pos (by omega)]; exact ⟨false,rfl,fun h=>by cases h⟩
    obtain ⟨b,g1,g2⟩:=key f.Runners.length 0 f.Runners.length 0 (by omega) (by omega) (by omega) (by omega) (fun j hj=>absurd hj (by omega))
    refine ⟨b,g1,fun hb=>?_⟩
    have g3:=g2 hb
    exact ⟨⟨by omega,by omega,by omega,fun r hr=>by
     obtain ⟨a,b,c⟩:=g3 r hr
     exact ⟨by omega,by omega,fun w hw=>by have:=c w hw; omega⟩⟩,h1,h2,h5,h6,g3⟩
  ·rw [if_pos (by omega)]; exact ⟨false,rfl,fun h=>by cases h⟩
 ·rw [if_pos (by omega)]; exact ⟨false,rfl,fun h=>by cases h⟩
def Tid:List TSpan→Prop
 | []=>True
 | s::l=>(s.Lo≤s.Hi∧∀ x,x ∈ l→s.Hi+1 < x.Lo)∧Tid l
theorem Tid.lo {l:List TSpan} (h:Tid l):∀ x,x ∈ l→x.Lo≤x.Hi:=by
 induction l with
 | nil=>intro x hx; cases hx
 | cons s l ih =>
  intro x hx
  rcases List.mem_cons.1 hx with rfl | hx
  ·exact h.1.1
  ·exact ih h.2 x hx
def bef (r:Nat→Int) (j i:Nat):Bool:=decide (r i < r j∨r j=r i∧j < i)
def rnk (r:Nat→Int) (n i:Nat):Nat:=(List.range n).countP fun j=>bef r j i
theorem bef_iff {r:Nat→Int} {j i:Nat}:bef r j i=true↔r i < r j∨r j=r i∧j < i:=by unfold bef; simp
theorem bef_irrefl (r:Nat→Int) (i:Nat):bef r i i=false:=by
 rw [Bool.eq_false_iff,Ne,bef_iff]; omega
theorem bef_trans {r:Nat→Int} {i j k:Nat} (h1:bef r i j=true) (h2:bef r j k=true):bef r i k=true:=by
 rw [bef_iff] at *; omega
structure Ord (r:Nat→Int) (n:Nat) (s:List Nat):Prop where
 perm:s.Perm (List.range n)
 pw:s.Pairwise fun x y=>bef r x y=true
theorem Ord.len {r:Nat→Int} {n:Nat} {s:List Nat} (h:Ord r n s):s.length=n:=by simpa using h.perm.length_eq
theorem Ord.at {r:Nat→Int} {n:Nat} {s:List Nat} (h:Ord r n s) {k:Nat} (hk:k < s.length):s[k] < n∧rnk r n s[k]=k:=by
 refine ⟨by simpa using h.perm.mem_iff.1 (List.getElem_mem hk),?_⟩
 have e1:rnk r n s[k]=s.countP fun j=>bef r j s[k]:=(h.perm.countP_eq _).symm
 rw [e1]
 have pw:=List.pairwise_iff_getElem.1 h.pw
 have e2:s.countP (fun j=>bef r j s[k])=(s.take k++s.drop k).countP fun j=>bef r j s[k]:=by rw [List.take_append_drop]
 rw [e2,List.countP_append]
 have a1:(s.take k).countP (fun j=>bef r j s[k])=k:=by
  have:(s.take k).countP (fun j=>bef r j s[k])=(s.take k).length:=List.countP_eq_length.2 fun x hx=>by
   obtain ⟨i,hi,rfl⟩:=List.mem_iff_getElem.1 hx
   rw [List.getElem_take]
   exact pw i k _ hk (by simp at hi; omega)
  rw [this]; simp; omega
 have a2:(s.drop k).countP (fun j=>bef r j s[k])=0:=by
  rw [List.countP_eq_zero]
  intro x hx
  obtain ⟨i,hi,rfl⟩:=List.mem_iff_getElem.1 hx
  rw [List.getElem_drop]
  intro hb
  simp at hi
  rcases Nat.eq_zero_or_pos i with h0 | h0
  ·subst h0; simp only [Nat.add_zero] at hb; rw [bef_irrefl] at hb; cases hb
  ·have:=bef_trans (pw k (k+i) hk (by omega) (by omega)) hb
   rw [bef_irrefl] at this; cases this
 rw [a1,a2,Nat.add_zero]
def covL:List TSpan→Int→Int→Bool
 | [],_,_=>false
 | s::r,hi,a=>if s.Lo > a∨a > s.Hi then covL r hi a else if s.Hi≥hi then true else covL r hi (w64 (s.Hi+1))
theorem covered_L1 {l:List TSpan} (hl:l.length≤1000) (x:TOutcome):∀ (c i n:Nat) (a:Int),i+c=l.length→c≤n→M185 x l M186 (n+1) a (i:Int)=some (covL (l.drop i) x.Hi a):=by
 intro c
 induction c with
 | zero =>
  intro i n a hi _
  rw [M185,dec_lt_nat,decide_eq_false (by omega),cond_false,List.drop_eq_nil_of_le (by omega)]; rfl
 | succ c ih =>
  intro i n a hi hn
  obtain ⟨n,rfl⟩:∃ n',n=n'+1:=⟨n - 1,by omega⟩
  have hil:i < l.length:=by omega
  rw [M185,dec_lt_nat,decide_eq_true hil,cond_true,idx_lt hil,w64_succ (by omega),List.drop_eq_getElem_cons hil,covL]
  simp only [some_bind,bif_dec]
  by_cases h1:l[i].Lo > a
  ·rw [if_neg (show ¬l[i].Lo≤a from by omega),if_pos (show l[i].Lo > a∨a > l[i].Hi from .inl h1)]
   simp only [some_bind,cond_false]
   exact ih (i+1) n a (by omega) (by omega)
  ·rw [if_pos (show l[i].Lo≤a from by omega)]
   simp only [some_bind,bif_dec]
   by_cases h2:a > l[i].Hi
   ·rw [if_neg (show ¬a≤l[i].Hi from by omega),if_pos (show l[i].Lo > a∨a > l[i].Hi from .inr h2)]; exact ih (i+1) n a (by omega) (by omega)
   ·rw [if_pos (show a≤l[i].Hi from by omega),if_neg (show ¬(l[i].Lo > a∨a > l[i].Hi) from by omega)]
    by_cases h3:l[i].Hi≥x.Hi
    ·rw [if_pos h3,if_pos h3]
    ·rw [if_neg h3,if_neg h3]; exact ih (i+1) n _ (by omega) (by omega)
theorem covered_eq {l:List TSpan} (hl:l.length≤1000) (x:TOutcome):M187 x l=some (covL l x.Hi x.Lo):=by
 unfold M187
 rw [fuel_sub]
 exact covered_L1 hl x l.length 0 l.length x.Lo (by omega) (by omega)
def SpOK (l:List TSpan) (i:Nat):Prop:=∀ s,l[i]?=some s→s.Lo≤s.Hi∧(0 < i→∀ t,l[i - 1]?=some t→t.Hi < s.Lo)
def OcOK (l:List TSpan) (o:TOutcome):Prop:=o.Out=false∧covL l o.Hi o.Lo=true
structure LkOK (f:TField) (x:TLook):Prop where
 lo:0≤x.Runner
 hi:x.Runner < f.Runners.length
 one:1≤x.Answers.length
 four:x.Answers.length≤4
 ord:∀ i,i < x.Answers.length→SpOK x.Answers i
 cov:∀ r,f.Runners[x.Runner.toNat]?=some r→∀ w,w ∈ r.Worlds→∀ o,o ∈ w→OcOK x.Answers o
theorem w64_pred {j:Nat} (h:j≤9000000000000000000):w64 (((j+1:Nat):Int) - 1)=(j:Int):=by
 rw [show ((j+1:Nat):Int) - 1=(j:Int) from by omega]
 exact w64_id ⟨by omega,by omega⟩
theorem sp_step {l:List TSpan} {i:Nat} (hi:i < l.length) (hl:l.length≤1000) (k:Option Bool):(bif decide (l[i].Lo > l[i].Hi) then some false else bif decide ((i:Int) > 0) then (idx l (w64 ((i:Int) - 1))).bind fun y=>bif decide (l[i].Lo≤y.Hi) then some false else k else k)=chk (SpOK l i) false k:=by
 have hx:l[i]?=some l[i]:=by simp [hi]
 simp only [bif_dec]
 by_cases h1:l[i].Lo > l[i].Hi
 ·rw [if_pos h1,chk_neg]
  intro h; have:=(h _ hx).1; omega
 ·rw [if_neg h1]
  by_cases h0:0 < i
  ·obtain ⟨j,rfl⟩:∃ j,i=j+1:=⟨i - 1,by omega⟩
   have hy:l[j]?=some l[j]:=by simp [show j < l.length by omega]
   rw [if_pos (by omega),w64_pred (by omega),idx_lt (by omega),some_bind]
   by_cases h2:l[j+1].Lo≤l[j].Hi
   ·rw [if_pos h2,chk_neg]
    intro h
    have:=(h _ hx).2 (by omega) _ hy
    omega
   ·rw [if_neg h2,chk_pos]
    intro s hs
    rw [hx] at hs; cases hs
    refine ⟨by omega,fun _ t ht=>?_⟩
    rw [show j+1 - 1=j from rfl,hy] at ht; cases ht
    omega
  ·rw [if_neg (by omega),chk_pos]
   intro s hs
   rw [hx] at hs; cases hs
   exact ⟨by omega,fun h=>by omega⟩
theorem fits_L1 {x:TLook} (hl:x.Answers.length≤4) (kk:Unit→Option Bool):M188 x kk (x.Answers.length+1) 0=chk (∀ i,i < x.Answers.length→SpOK x.Answers i) false (kk ()):=by
 exact chk_loop (N:=x.Answers.length) (f:=fun n i=>M188 x kk n (i:Int)) (r:=false) (ok:=SpOK x.Answers) (k:=kk ()) (fun n i hi=>by
  show M188 x kk (n+1) (i:Int)=_
  rw [M188,dec_lt_nat,decide_eq_true hi,cond_true,idx_lt hi,w64_succ (by omega)]
  simp only [some_bind]
  exact sp_step hi (by omega) _) (fun n=>by
  show M188 x kk (n+1) ((x.Answers.length:Nat):Int)=_
  rw [M188,dec_lt_nat,decide_eq_false (by omega),cond_false])
theorem oc_step {l:List TSpan} (o:TOutcome) (k:Option Bool):(bif o.Out then some false else (some (covL l o.Hi o.Lo)).bind fun r=>bif !r then some false else k)=chk (OcOK l o) false k:=by
 unfold chk OcOK
 rw [some_bind]
 cases h1:o.Out with
 | true=>rw [if_neg (by simp)]; rfl
 | false =>
  cases h2:covL l o.Hi o.Lo with
  | true=>rw [if_pos (by simp)]; rfl
  | false=>rw [if_neg (by simp)]; rfl
theorem fits_L3 {x:TLook} (hx:x.Answers.length≤4) {r:TRunner} {w:Nat} {l:List TOutcome} (hw:idx r.Worlds (w:Int)=some l) (hl:l.length≤1000) (kk:Unit→Option Bool):M189 x r (w:Int) kk (l.length+1) 0=chk (∀ o,o ∈ l→OcOK x.Answers o) false (kk ()):=by
 refine (chk_loop (ok:=fun j=>∀ o,l[j]?=some o→OcOK x.Answers o) (k:=kk ()) (r:=false) (f:=fun n j=>M189 x r (w:Int) kk n (j:Int)) (fun n j hj=>?_) (fun n=>?_)).trans (chk_congr all_get fun _=>rfl)
 ·show M189 x r (w:Int) kk (n+1) (j:Int)=_
  have hy:l[j]?=some l[j]:=by simp [hj]
  rw [M189,hw]
  simp only [some_bind]
  rw [dec_lt_nat,decide_eq_true hj,cond_true,idx_lt hj,w64_succ (by omega),hy]
  simp only [some_bind]
  rw [covered_eq (by omega)]
  generalize l[j]=o
  simp only [Option.some.injEq,forall_eq']
  exact oc_step o _
 ·show M189 x r (w:Int) kk (n+1) ((l.length:Nat):Int)=_
  rw [M189,hw]
  simp only [some_bind]
  rw [dec_lt_nat,decide_eq_false (by omega),cond_false]
theorem fits_L2 {x:TLook} (hx:x.Answers.length≤4) {r:TRunner} (h1:r.Worlds.length≤1000) (h2:∀ w,w ∈ r.Worlds→w.length≤1000) (kk:Unit→Option Bool):M191 x r kk (r.Worlds.length+1) 0=chk (∀ w,w ∈ r.Worlds→∀ o,o ∈ w→OcOK x.Answers o) false (kk ()):=by
 refine (chk_loop (ok:=fun j=>∀ w,r.Worlds[j]?=some w→∀ o,o ∈ w→OcOK x.Answers o) (k:=kk ()) (r:=false) (f:=fun n j=>M191 x r kk n (j:Int)) (fun n j hj=>?_) (fun n=>?_)).trans (chk_congr all_get fun _=>rfl)
 ·show M191 x r kk (n+1) (j:Int)=_
  have hy:r.Worlds[j]?=some r.Worlds[j]:=by simp [hj]
  rw [M191,dec_lt_nat,decide_eq_true hj,cond_true,idx_lt hj,Option.getD_some,fuel_sub,fits_L3 hx (idx_lt hj) (h2 _ (List.getElem_mem hj)),hy,M190,w64_succ (by omega)]
  simp only [Option.some.injEq,forall_eq']
 ·show M191 x r kk (n+1) ((r.Worlds.length:Nat):Int)=_
  rw [M191,dec_lt_nat,decide_eq_false (by omega),cond_false]
structure QOK (q:TQuestion):Prop where
 field:FieldOK q.Field
 lo:0≤q.Runner
 hi:q.Runner < q.Field.Runners.length
 many:q.Looks.length≤16
 look:∀ x,x ∈ q.Looks→LkOK q.Field x
theorem idx_toNat {α:Type} {l:List α} {i:Int} (h0:0≤i) (h1:i < l.length):∃ r,l[i.toNat]?=some r∧idx l i=some r∧r ∈ l:=by
 have h:i.toNat < l.length:=by omega
 refine ⟨l[i.toNat],by simp [h],?_,List.getElem_mem h⟩
 unfold idx
 rw [if_pos h0]; simp [h]
theorem lk_iff {f:TField} {x:TLook} (h0:0≤x.Runner) (h1:x.Runner < f.Runners.length) (h2:1≤x.Answers.length) (h3:x.Answers.length≤4) {r:TRunner} (hr:f.Runners[x.Runner.toNat]?=some r) :
  ((∀ i,i < x.Answers.length→SpOK x.Answers i)∧∀ w,w ∈ r.Worlds→∀ o,o ∈ w→OcOK x.Answers o)↔LkOK f x:=by
 constructor
 ·rintro ⟨a,b⟩
  exact ⟨h0,h1,h2,h3,a,fun r' hr'=>by rw [hr] at hr'; cases hr'; exact b⟩
 ·intro h
  exact ⟨h.ord,h.cov r hr⟩
theorem head_eq (f:TField) (x:TLook):((decide (x.Runner < 0)) || ((decide (x.Runner≥(((f.Runners).length:Int)))) || ((decide ((((x.Answers).length:Int)) < 1)) || (decide ((((x.Answers).length:Int)) > 4)))))=!(decide (0≤x.Runner∧x.Runner < f.Runners.length∧1≤x.Answers.length∧x.Answers.length≤4)):=by
 rw [Bool.eq_iff_iff]
 simp only [Bool.or_eq_true,decide_eq_true_eq,Bool.not_eq_true',decide_eq_false_iff_not]
 omega
theorem fits_eq {f:TField} (hs:Small f) (x:TLook):M194 f x=chk (LkOK f x) false (some true):=by
 unfold M194
 rw [head_eq]
 by_cases h:0≤x.Runner∧x.Runner < f.Runners.length∧1≤x.Answers.length∧x.Answers.length≤4
 ·obtain ⟨h0,h1,h2,h3⟩:=h
  obtain ⟨r,r1,r2,r3⟩:=idx_toNat h0 h1
  obtain ⟨w1,w2,w3⟩:=hs.worlds r r3
  rw [decide_eq_true (show 0≤x.Runner∧x.Runner < f.Runners.length∧1≤x.Answers.length∧x.Answers.length≤4 from ⟨h0,h1,h2,h3⟩),Bool.not_true,cond_false,fuel_sub,fits_L1 h3,M193,r2,some_bind,fuel_sub,fits_L2 h3 w2 w3,M192,chk_and]
  exact chk_congr (lk_iff h0 h1 h2 h3 r1) fun _=>rfl
 ·rw [decide_eq_false h,Bool.not_false,cond_true,chk_neg fun hk=>h ⟨hk.lo,hk.hi,hk.one,hk.four⟩]
theorem ref36_L1 {q:TQuestion} (hs:Small q.Field) (hl:q.Looks.length≤1000) (kk:Unit→Option Int):M195 q kk (q.Looks.length+1) 0=chk (∀ x,x ∈ q.Looks→LkOK q.Field x) 360 (kk ()):=by
 refine (chk_loop (ok:=fun j=>∀ x,q.Looks[j]?=some x→LkOK q.Field x) (k:=kk ()) (r:=360) (f:=fun n j=>M195 q kk n (j:Int)) (fun n j hj=>?_) (fun n=>?_)).trans (chk_congr all_get fun _=>rfl)
 ·show M195 q kk (n+1) (j:Int)=_
  have hy:q.Looks[j]?=some q.Looks[j]:=by simp [hj]
  rw [M195,dec_lt_nat,decide_eq_true hj,cond_true,idx_lt hj,some_bind,hy,w64_succ (by omega),fits_eq hs]
  generalize q.Looks[j]=x
  simp only [Option.some.injEq,forall_eq']
  by_cases h:LkOK q.Field x
  ·rw [chk_pos h,chk_pos h]; rfl
  ·rw [chk_neg h,chk_neg h]; rfl
 ·show M195 q kk (n+1) ((q.Looks.length:Nat):Int)=_
  rw [M195,dec_lt_nat,decide_eq_false (by omega),cond_false]
theorem ref36_Check_eq {q:TQuestion} (hs:Small q.Field) (hl:q.Looks.length≤1000):M197 q=chk (QOK q) 360 (some 0):=by
 unfold M197
 rw [ref24_Check_eq hs]
 by_cases hf:FieldOK q.Field
 ·rw [chk_pos hf,some_bind,show ((0:Int) != 0)=false from rfl,cond_false]
  simp only [bif_dec]
  by_cases h0:q.Runner < 0
  ·rw [if_pos h0,some_bind,cond_true,chk_neg fun h=>by have:=h.lo; omega]
  ·rw [if_neg h0]
   by_cases h1:q.Runner≥(q.Field.Runners.length:Int)
   ·rw [if_pos h1,some_bind,cond_true,chk_neg fun h=>by have:=h.hi; omega]
   ·rw [if_neg h1,some_bind]
    by_cases h2:q.Looks.length≤16
    ·rw [decide_eq_false (by omega),cond_false,fuel_sub,ref36_L1 hs hl,M196]
     exact chk_congr ⟨fun h=>⟨hf,by omega,by omega,h2,h⟩,fun h=>h.look⟩ fun _=>rfl
    ·rw [decide_eq_true (by omega),cond_true,chk_neg fun h=>h2 h.many]
 ·rw [chk_neg hf,some_bind,show ((240:Int) != 0)=true from rfl,cond_true,some_bind,cond_true,chk_neg fun h=>hf h.field]
def cutO (a:TSpan) (o:TOutcome):Option TOutcome:=if maxG o.Lo a.Lo≤minG o.Hi a.Hi then some ⟨o.Out,o.Seg,maxG o.Lo a.Lo,minG o.Hi a.Hi⟩ else none
def cutW (a:TSpan) (l:List TOutcome):List TOutcome:=l.filterMap (cutO a)
def cutR (a:TSpan) (r:TRunner):TRunner:=⟨r.Bib,r.Keys,r.Worlds.map (cutW a)⟩
def narF (f:TField) (at_:Nat) (a:TSpan) (r:TRunner):TField:=⟨f.Clocks,f.Pairs,f.Runners.set at_ (cutR a r)⟩
theorem cutW_len (a:TSpan) (l:List TOutcome):(cutW a l).length≤l.length:=List.length_filterMap_le _ _
structure Inv (f:TField) (ls:List TLook):Prop where
 small:Small f
 ok:FieldOK f
 look:∀ x,x ∈ ls→0≤x.Runner∧x.Runner < f.Runners.length∧x.Answers.length≤4∧∀ r,f.Runners[x.Runner.toNat]?=some r→∀ w,w ∈ r.Worlds→∀ o,o ∈ w→o.Out=false
theorem QOK.inv {q:TQuestion} (hs:Small q.Field) (h:QOK q):Inv q.Field q.Looks :=
 ⟨hs,h.field,fun x hx=>let k:=h.look x hx; ⟨k.lo,k.hi,k.four,fun r hr w hw o ho=>(k.cov r hr w hw o ho).1⟩⟩
theorem narF_get {f:TField} {k:Nat} {a:TSpan} {r:TRunner} (i:Nat):(narF f k a r).Runners[i]?=if k=i∧k < f.Runners.length then some (cutR a r) else f.Runners[i]?:=by
 unfold narF
 dsimp only
 rw [List.getElem?_set]
 by_cases h:k=i
 ·subst h
  by_cases hk:k < f.Runners.length
  ·simp [hk]
  ·simp [hk]
 ·simp [h]
theorem narF_len {f:TField} {k:Nat} {a:TSpan} {r:TRunner}:(narF f k a r).Runners.length=f.Runners.length:=by unfold narF; simp
theorem cutW_mem {a:TSpan} {l:List TOutcome} {o:TOutcome} (h:o ∈ cutW a l):∃ o0,o0 ∈ l∧o=⟨o0.Out,o0.Seg,maxG o0.Lo a.Lo,minG o0.Hi a.Hi⟩∧maxG o0.Lo a.Lo≤minG o0.Hi a.Hi:=by
 unfold cutW at h
 obtain ⟨o0,h1,h2⟩:=List.mem_filterMap.1 h
 unfold cutO at h2
 split at h2
 ·rename_i h3
  cases h2
  exact ⟨o0,h1,rfl,h3⟩
 ·cases h2
theorem narF_small {f:TField} (hs:Small f) {k:Nat} {a:TSpan} {r:TRunner} (hr:r ∈ f.Runners):Small (narF f k a r):=by
 refine ⟨hs.seg,hs.pairs,by rw [narF_len]; exact hs.runners,fun q hq=>?_⟩
 rcases List.mem_or_eq_of_mem_set (show q ∈ f.Runners.set k (cutR a r) from hq) with h | h
 ·exact hs.worlds q h
 ·subst h
  obtain ⟨h1,h2,h3⟩:=hs.worlds r hr
  refine ⟨h1,by unfold cutR; simpa using h2,fun w hw=>?_⟩
  obtain ⟨w0,hw0,rfl⟩:=List.mem_map.1 (show w ∈ r.Worlds.map (cutW a) from hw)
  have:=h3 w0 hw0
  have:=cutW_len a w0
  omega
theorem narF_ok {f:TField} (hf:FieldOK f) {k:Nat} {a:TSpan} {r:TRunner} (hr:f.Runners[k]?=some r) (hout:∀ w,w ∈ r.Worlds→∀ o,o ∈ w→o.Out=false) :
  FieldOK (narF f k a r)↔∃ w,w < f.Pairs.length+1∧Poss (narF f k a r).Runners w:=by
 have hk:k < f.Runners.length:=(List.getElem?_eq_some_iff.1 hr).1
 constructor
 ·intro h
  have:=h.poss
  exact Classical.byContradiction fun hn=>this fun w hw hp=>hn ⟨w,hw,hp⟩
 ·rintro ⟨w,hw,hp⟩
  have hbib:∀ (i:Nat) q,(narF f k a r).Runners[i]?=some q→∃ q0,f.Runners[i]?=some q0∧q.Bib=q0.Bib∧q.Keys=q0.Keys∧q.Worlds.length=q0.Worlds.length:=by
   intro i q hq
   rw [narF_get] at hq
   split at hq
   ·rename_i h; cases hq
    refine ⟨r,by rw [← h.1]; exact hr,rfl,rfl,?_⟩
    unfold cutR; simp
   ·exact ⟨q,hq,rfl,rfl,rfl⟩
  refine ⟨hf.clocks,⟨hf.size.1,by rw [narF_len]; exact hf.size.2⟩,hf.pair,fun i hi q hq=>?_,fun hn=>hn w hw hp⟩
  obtain ⟨q0,h0,e1,e2,e3⟩:=hbib i q hq
  have hro:=hf.runner i (by rw [narF_len] at hi; exact hi) q0 h0
  refine ⟨⟨by rw [e1]; exact hro.1.1,by rw [e1]; exact hro.1.2.1,fun hi0 p hp'=>?_,fun z hz=>?_,by rw [e3]; exact hro.1.2.2.2.2⟩,fun w' hw' o ho=>?_⟩
  ·obtain ⟨p0,p1,p2,_,_⟩:=hbib _ p hp'
   rw [p2,e1]; exact hro.1.2.2.1 hi0 p0 p1
  ·obtain ⟨z0,z1,_,z3,_⟩:=hbib _ z hz
   rw [z3,e2]; exact hro.1.2.2.2.1 z0 z1
  ·rw [narF_get] at hq
   split at hq
   ·rename_i h; cases hq
    have h0':r=q0:=by rw [← h.1,hr] at h0; cases h0; rfl
    subst h0'
    obtain ⟨w0,hw0,rfl⟩:=List.mem_map.1 (show w' ∈ r.Worlds.map (cutW a) from hw')
    obtain ⟨o0,ho0,rfl,hle⟩:=cutW_mem ho
    have h1:=hro.2 w0 hw0 o0 ho0
    have h2:=hout w0 hw0 o0 ho0
    obtain ⟨g1,g2,g3,g4,g5⟩:=h1.2 h2
    refine ⟨fun h=>?_,fun _=>⟨g1,g2,?_,hle,?_⟩⟩
    ·dsimp only at h; rw [h2] at h; cases h
    ·dsimp only; unfold maxG; split <;> omega
    ·dsimp only; unfold minG; split <;> omega
   ·rw [hq] at h0; cases h0
    exact hro.2 w' hw' o ho
theorem clone_run {l:List TRunner} (hl:l.length≤1000000):M56 l=some l:=by
 unfold M56
 rw [app_ok (by simp; omega) (by simp; omega)]; rfl
noncomputable def narB (f:TField) (k:Nat) (a:TSpan) (r:TRunner):Bool:=@decide (FieldOK (narF f k a r)) (Classical.propDecidable _)
theorem narB_iff {f:TField} {k:Nat} {a:TSpan} {r:TRunner}:narB f k a r=true↔FieldOK (narF f k a r):=by unfold narB; simp
structure Used (n:Nat) (u:List Bool) (l:List Int):Prop where
 len:u.length=n
 small:l.length≤500
 mem:∀ i,(h:i < u.length)→(u[i]=true↔(i:Int) ∈ l)
theorem Used.set {n:Nat} {u:List Bool} {l:List Int} (h:Used n u l) {i:Nat} (hi:i < n) (hl:l.length < 500):Used n (u.set i true) (l++[(i:Int)]):=by
 refine ⟨by simp [h.len],by simp; omega,fun j hj=>?_⟩
 have hj':j < u.length:=by simpa using hj
 rw [List.getElem_set]
 by_cases e:i=j
 ·subst e; simp
 ·rw [if_neg e,h.mem j hj']
  have:¬(j:Int)=(i:Int):=by omega
  simp [this]
theorem lcovered_L1 {l:List TSpan} (hl:l.length≤1000) (x:TOutcome):∀ (c i n:Nat) (a:Int),i+c=l.length→c≤n→M46 x l M47 (n+1) a (i:Int)=some (covL (l.drop i) x.Hi a):=by
 intro c
 induction c with
 | zero =>
  intro i n a hi _
  rw [M46,dec_lt_nat,decide_eq_false (by omega),cond_false,List.drop_eq_nil_of_le (by omega)]; rfl
 | succ c ih =>
  intro i n a hi hn
  obtain ⟨n,rfl⟩:∃ n',n=n'+1:=⟨n - 1,by omega⟩
  have hil:i < l.length:=by omega
  rw [M46,dec_lt_nat,decide_eq_true hil,cond_true,idx_lt hil,some_bind,w64_succ (by omega),List.drop_eq_getElem_cons hil,covL]
  by_cases h1:l[i].Lo≤a∧a≤l[i].Hi
  ·rw [decide_eq_true h1.1,decide_eq_true h1.2,Bool.true_and,cond_true,if_neg (show ¬(l[i].Lo > a∨a > l[i].Hi) from by omega)]
   by_cases h3:l[i].Hi≥x.Hi
   ·rw [decide_eq_true (show x.Hi≤l[i].Hi from h3),cond_true,if_pos h3]
   ·rw [decide_eq_false (show ¬x.Hi≤l[i].Hi from h3),cond_false,if_neg h3]; exact ih (i+1) n _ (by omega) (by omega)
  ·have:((decide (l[i].Lo≤a)) && (decide (a≤l[i].Hi)))=false:=by
    rw [Bool.eq_false_iff]
    intro h
    simp only [Bool.and_eq_true,decide_eq_true_eq] at h
    exact h1 h
   rw [this,cond_false,if_pos (show l[i].Lo > a∨a > l[i].Hi from by omega)]
   exact ih (i+1) n a (by omega) (by omega)
theorem lcovered_eq {l:List TSpan} (hl:l.length≤1000) (x:TOutcome):M48 x l=some (covL l x.Hi x.Lo):=by
 unfold M48
 rw [fuel_sub]
 exact lcovered_L1 hl x l.length 0 l.length x.Lo (by omega) (by omega)
theorem concatO_L1 {L:List (List TOutcome)} (h1:L.length≤1000) (h2:∀ w,w ∈ L→w.length≤1000):∀ (c i n:Nat) (s:Int),i+c=L.length→c≤n→0≤s→s≤1000 * i→∃ r,M25 L (n+1) s (i:Int)=some r∧0≤r∧r≤1000000:=by
 intro c
 induction c with
 | zero =>
  intro i n s hi _ s0 s1
  exact ⟨s,by rw [M25,dec_lt_nat,decide_eq_false (by omega),cond_false],s0,by omega⟩
 | succ c ih =>
  intro i n s hi hn s0 s1
  obtain ⟨n,rfl⟩:∃ n',n=n'+1:=⟨n - 1,by omega⟩
  have hil:i < L.length:=by omega
  have hw:=h2 _ (List.getElem_mem hil)
  rw [M25,dec_lt_nat,decide_eq_true hil,cond_true,idx_lt hil,some_bind,w64_id (n:=s+(L[i].length:Int)) ⟨by omega,by omega⟩,decide_eq_false (by omega),cond_false,w64_succ (by omega)]
  exact ih (i+1) n _ (by omega) (by omega) (by omega) (by omega)
theorem concatO_L2 {L:List (List TOutcome)} (h1:L.length≤1000) (h2:∀ w,w ∈ L→w.length≤1000):∀ (c i n:Nat) (s:List TOutcome),i+c=L.length→c≤n→s.length≤1000 * i→M26 L (n+1) (i:Int) s=some (s++(L.drop i).flatten):=by
 intro c
 induction c with
 | zero =>
  intro i n s hi _ s1
  rw [M26,dec_lt_nat,decide_eq_false (by omega),cond_false,List.drop_eq_nil_of_le (by omega)]; simp
 | succ c ih =>
  intro i n s hi hn s1
  obtain ⟨n,rfl⟩:∃ n',n=n'+1:=⟨n - 1,by omega⟩
  have hil:i < L.length:=by omega
  have hw:=h2 _ (List.getElem_mem hil)
  rw [M26,dec_lt_nat,decide_eq_true hil,cond_true,idx_lt hil,some_bind,app_ok (by omega) (by omega),some_bind,w64_succ (by omega),ih (i+1) n _ (by omega) (by omega) (by rw [List.length_append]; omega),List.drop_eq_getElem_cons hil,List.flatten_cons,List.append_assoc]
theorem concatO_L3 {L:List (List TOutcome)} (h1:L.length≤1000) (h2:∀ w,w ∈ L→w.length≤1000):∀ (c i n:Nat) (s:List TOutcome),i+c=L.length→c≤n→s.length≤1000 * i→M27 L (n+1) (i:Int) s=some (s++(L.drop i).flatten):=by
 intro c
 induction c with
 | zero =>
  intro i n s hi _ s1
  rw [M27,dec_lt_nat,decide_eq_false (by omega),cond_false,List.drop_eq_nil_of_le (by omega)]; simp
 | succ c ih =>
  intro i n s hi hn s1
  obtain ⟨n,rfl⟩:∃ n',n=n'+1:=⟨n - 1,by omega⟩
  have hil:i < L.length:=by omega
  have hw:=h2 _ (List.getElem_mem hil)
  rw [M27,dec_lt_nat,decide_eq_true hil,cond_true,idx_lt hil,some_bind,app_ok (by omega) (by omega),some_bind,w64_succ (by omega),ih (i+1) n _ (by omega) (by omega) (by rw [List.length_append]; omega),List.drop_eq_getElem_cons hil,List.flatten_cons,List.append_assoc]
theorem concatO_eq {L:List (List TOutcome)} (h1:L.length≤1000) (h2:∀ w,w ∈ L→w.length≤1000):M28 L=some L.flatten:=by
 unfold M28
 obtain ⟨r,e1,e2,e3⟩:=concatO_L1 h1 h2 L.length 0 L.length 0 (by omega) (by omega) (by omega) (by omega)
 have e4:=concatO_L2 h1 h2 L.length 0 L.length [] (by omega) (by omega) (by simp)
 have e5:=concatO_L3 h1 h2 L.length 0 L.length [] (by omega) (by omega) (by simp)
 rw [show ((0:Nat):Int)=0 from rfl] at e1 e4 e5
 rw [fuel_sub,e1,some_bind,decide_eq_false (by omega),cond_false,show r - 0=r from by omega,w64_id ⟨by omega,by omega⟩]
 by_cases h:r > 0
 ·rw [decide_eq_true h,cond_true]
  unfold mkZ
  rw [if_pos ⟨h,by omega,by omega⟩,some_bind,show slcTo (List.replicate r.toNat (⟨false,0,0,0⟩:TOutcome)) 0=some [] from by unfold slcTo; rw [if_pos ⟨by omega,by omega⟩]; rfl,some_bind,e4,some_bind,List.drop_zero,List.nil_append]
 ·rw [decide_eq_false h,cond_false,e5,some_bind,List.drop_zero,List.nil_append]
theorem sp_stepE {l:List TSpan} {i:Nat} (hi:i < l.length) (hl:l.length≤1000) (k:Option Int):(bif decide (l[i].Lo > l[i].Hi) then some 360 else bif decide ((i:Int) > 0) then (idx l (w64 ((i:Int) - 1))).bind fun y=>bif decide (l[i].Lo≤y.Hi) then some 360 else k else k)=chk (SpOK l i) 360 k:=by
 have hx:l[i]?=some l[i]:=by simp [hi]
 simp only [bif_dec]
 by_cases h1:l[i].Lo > l[i].Hi
 ·rw [if_pos h1,chk_neg]
  intro h; have:=(h _ hx).1; omega
 ·rw [if_neg h1]
  by_cases h0:0 < i
  ·obtain ⟨j,rfl⟩:∃ j,i=j+1:=⟨i - 1,by omega⟩
   have hy:l[j]?=some l[j]:=by simp [show j < l.length by omega]
   rw [if_pos (by omega),w64_pred (by omega),idx_lt (by omega),some_bind]
   by_cases h2:l[j+1].Lo≤l[j].Hi
   ·rw [if_pos h2,chk_neg]
    intro h
    have:=(h _ hx).2 (by omega) _ hy
    omega
   ·rw [if_neg h2,chk_pos]
    intro s hs
    rw [hx] at hs; cases hs
    refine ⟨by omega,fun _ t ht=>?_⟩
    rw [show j+1 - 1=j from rfl,hy] at ht; cases ht
    omega
  ·rw [if_neg (by omega),chk_pos]
   intro s hs
   rw [hx] at hs; cases hs
   exact ⟨by omega,fun h=>by omega⟩
theorem lcheck_L2 {x:TLook} (hl:x.Answers.length≤4) (kk:Unit→Option Int):M49 x kk (x.Answers.length+1) 0=chk (∀ i,i < x.Answers.length→SpOK x.Answers i) 360 (kk ()):=by
 exact chk_loop (N:=x.Answers.length) (f:=fun n i=>M49 x kk n (i:Int)) (r:=360) (ok:=SpOK x.Answers) (k:=kk ()) (fun n i hi=>by
  show M49 x kk (n+1) (i:Int)=_
  rw [M49,dec_lt_nat,decide_eq_true hi,cond_true,idx_lt hi,some_bind,w64_succ (by omega)]
  exact sp_stepE hi (by omega) _) (fun n=>by
  show M49 x kk (n+1) ((x.Answers.length:Nat):Int)=_
  rw [M49,dec_lt_nat,decide_eq_false (by omega),cond_false])
theorem lcheck_L3 {x:TLook} (hx:x.Answers.length≤4) {l:List TOutcome} (hl:l.length≤10000000) (kk:Unit→Option Int):M50 x l kk (l.length+1) 0=chk (∀ o,o ∈ l→OcOK x.Answers o) 360 (kk ()):=by
 refine (chk_loop (ok:=fun j=>∀ o,l[j]?=some o→OcOK x.Answers o) (k:=kk ()) (r:=360) (f:=fun n j=>M50 x l kk n (j:Int)) (fun n j hj=>?_) (fun n=>?_)).trans (chk_congr all_get fun _=>rfl)
 ·show M50 x l kk (n+1) (j:Int)=_
  have hy:l[j]?=some l[j]:=by simp [hj]
  rw [M50,dec_lt_nat,decide_eq_true hj,cond_true,idx_lt hj,some_bind,w64_succ (by omega),hy,lcovered_eq (by omega)]
  generalize l[j]=o
  simp only [Option.some.injEq,forall_eq']
  unfold chk OcOK
  rw [some_bind]
  cases h1:o.Out with
  | true=>rw [if_neg (by simp)]; rfl
  | false =>
   cases h2:covL x.Answers o.Hi o.Lo with
   | true=>rw [if_pos (by simp)]; rfl
   | false=>rw [if_neg (by simp)]; rfl
 ·show M50 x l kk (n+1) ((l.length:Nat):Int)=_
  rw [M50,dec_lt_nat,decide_eq_false (by omega),cond_false]
theorem lcheck_look {f:TField} (hs:Small f) (x:TLook) (k:Option Int) (kk:Unit→Option Int) (hk:∀ r,idx f.Runners x.Runner=some r→x.Answers.length≤4→kk ()=chk (∀ w,w ∈ r.Worlds→∀ o,o ∈ w→OcOK x.Answers o) 360 k) :
  (bif ((decide (x.Runner < 0)) || ((decide (x.Runner≥(((f.Runners).length:Int)))) || ((decide ((((x.Answers).length:Int)) < 1)) || (decide ((((x.Answers).length:Int)) > 4))))) then some 360 else M49 x kk (x.Answers.length+1) 0)=chk (LkOK f x) 360 k:=by
 rw [head_eq]
 by_cases h:0≤x.Runner∧x.Runner < f.Runners.length∧1≤x.Answers.length∧x.Answers.length≤4
 ·obtain ⟨h0,h1,h2,h3⟩:=h
  obtain ⟨r,r1,r2,r3⟩:=idx_toNat h0 h1
  rw [decide_eq_true (show 0≤x.Runner∧x.Runner < f.Runners.length∧1≤x.Answers.length∧x.Answers.length≤4 from ⟨h0,h1,h2,h3⟩),Bool.not_true,cond_false,lcheck_L2 h3,hk r r2 h3,chk_and]
  exact chk_congr (lk_iff h0 h1 h2 h3 r1) fun _=>rfl
 ·rw [decide_eq_false h,Bool.not_false,cond_true,chk_neg fun hk=>h ⟨hk.lo,hk.hi,hk.one,hk.four⟩]
theorem flat_len {L:List (List TOutcome)} (h1:L.length≤1000) (h2:∀ w,w ∈ L→w.length≤1000):L.flatten.length≤1000000:=by
 have key:∀ L:List (List TOutcome),(∀ w,w ∈ L→w.length≤1000)→L.flatten.length≤1000 * L.length:=by
  intro L
  induction L with
  | nil=>intro _; simp
  | cons w r ih =>
   intro h
   have:=ih fun v hv=>h v (List.mem_cons_of_mem _ hv)
   have:=h w List.mem_cons_self
   rw [List.flatten_cons,List.length_append,List.length_cons]
   omega
 have:=key L h2
 omega
theorem lcheck_L1 {q:TQuestion} (hs:Small q.Field) (hl:q.Looks.length≤1000) (kk:Unit→Option Int):M53 q kk (q.Looks.length+1) 0=chk (∀ x,x ∈ q.Looks→LkOK q.Field x) 360 (kk ()):=by
 refine (chk_loop (ok:=fun j=>∀ x,q.Looks[j]?=some x→LkOK q.Field x) (k:=kk ()) (r:=360) (f:=fun n j=>M53 q kk n (j:Int)) (fun n j hj=>?_) (fun n=>?_)).trans (chk_congr all_get fun _=>rfl)
 ·show M53 q kk (n+1) (j:Int)=_
  have hy:q.Looks[j]?=some q.Looks[j]:=by simp [hj]
  rw [M53,dec_lt_nat,decide_eq_true hj,cond_true,idx_lt hj,some_bind,hy,fuel_sub]
  generalize q.Looks[j]=x
  simp only [Option.some.injEq,forall_eq']
  refine lcheck_look hs x _ _ fun r hr h4=>?_
  obtain ⟨w1,w2,w3⟩:=hs.worlds r (by
   unfold idx at hr
   split at hr
   ·exact List.mem_of_getElem? hr
   ·cases hr)
  have hfl:=flat_len w2 w3
  rw [M52,hr,some_bind,concatO_eq w2 w3,some_bind,fuel_sub,lcheck_L3 h4 (by omega),M51,w64_succ (by omega)]
  refine chk_congr ⟨fun h w hw o ho=>h o (List.mem_flatten.2 ⟨w,hw,ho⟩),fun h o ho=>?_⟩ fun _=>rfl
  obtain ⟨w,hw,ho⟩:=List.mem_flatten.1 ho
  exact h w hw o ho
 ·show M53 q kk (n+1) ((q.Looks.length:Nat):Int)=_
  rw [M53,dec_lt_nat,decide_eq_false (by omega),cond_false]
theorem looks_Check_eq {q:TQuestion} (hs:Small q.Field) (hl:q.Looks.length≤1000):M55 q=chk (QOK q) 360 (some 0):=by
 unfold M55
 rw [field_Check_eq hs]
 by_cases hf:FieldOK q.Field
 ·rw [chk_pos hf,some_bind,show ((0:Int) != 0)=false from rfl,cond_false]
  simp only [bif_dec]
  by_cases h0:q.Runner < 0
  ·rw [if_pos h0,some_bind,cond_true,chk_neg fun h=>by have:=h.lo; omega]
  ·rw [if_neg h0]
   by_cases h1:q.Runner≥(q.Field.Runners.length:Int)
   ·rw [if_pos h1,some_bind,cond_true,chk_neg fun h=>by have:=h.hi; omega]
   ·rw [if_neg h1,some_bind]
    by_cases h2:q.Looks.length≤16
    ·rw [decide_eq_false (by omega),cond_false,fuel_sub,lcheck_L1 hs hl,M54]
     exact chk_congr ⟨fun h=>⟨hf,by omega,by omega,h2,h⟩,fun h=>h.look⟩ fun _=>rfl
    ·rw [decide_eq_true (by omega),cond_true,chk_neg fun h=>h2 h.many]
 ·rw [chk_neg hf,some_bind,show ((240:Int) != 0)=true from rfl,cond_true,some_bind,cond_true,chk_neg fun h=>hf h.field]
theorem lafter_L2 {a:TSpan} {l:List TOutcome} (hl:l.length≤1000):∀ (c i n:Nat) (acc:List TOutcome),i+c=l.length→c≤n→acc.length≤i→M62 a l (n+1) (i:Int) acc=some (acc++cutW a (l.drop i)):=by
 intro c
 induction c with
 | zero =>
  intro i n acc hi _ ha
  rw [M62,dec_lt_nat,decide_eq_false (by omega),cond_false,List.drop_eq_nil_of_le (by omega)]
  simp [cutW]
 | succ c ih =>
  intro i n acc hi hn ha
  obtain ⟨n,rfl⟩:∃ n',n=n'+1:=⟨n - 1,by omega⟩
  have hil:i < l.length:=by omega
  rw [M62,dec_lt_nat,decide_eq_true hil,cond_true,idx_lt hil,some_bind,w64_succ (by omega),List.drop_eq_getElem_cons hil]
  unfold cutW
  rw [List.filterMap_cons]
  by_cases h:maxG l[i].Lo a.Lo≤minG l[i].Hi a.Hi
  ·rw [decide_eq_true h,cond_true,app_ok (by simp; omega) (by simp; omega),some_bind,ih (i+1) n _ (by omega) (by omega) (by simp; omega)]
   rw [show cutO a l[i]=some ⟨l[i].Out,l[i].Seg,maxG l[i].Lo a.Lo,minG l[i].Hi a.Hi⟩ from by unfold cutO; rw [if_pos h]]
   simp [cutW]
  ·rw [decide_eq_false h,cond_false,ih (i+1) n _ (by omega) (by omega) (by omega)]
   rw [show cutO a l[i]=none from by unfold cutO; rw [if_neg h]]
   rfl
theorem lafter_L1 {a:TSpan} {r:TRunner} (h1:r.Worlds.length≤1000) (h2:∀ w,w ∈ r.Worlds→w.length≤1000):∀ (c i n:Nat) (acc:List (List TOutcome)),i+c=r.Worlds.length→c≤n→acc.length≤i→M63 a r (n+1) (i:Int) acc=some (acc++(r.Worlds.drop i).map (cutW a)):=by
 intro c
 induction c with
 | zero =>
  intro i n acc hi _ ha
  rw [M63,dec_lt_nat,decide_eq_false (by omega),cond_false,List.drop_eq_nil_of_le (by omega)]
  simp
 | succ c ih =>
  intro i n acc hi hn ha
  obtain ⟨n,rfl⟩:∃ n',n=n'+1:=⟨n - 1,by omega⟩
  have hil:i < r.Worlds.length:=by omega
  have hw:=h2 _ (List.getElem_mem hil)
  have h0:=lafter_L2 (a:=a) hw r.Worlds[i].length 0 r.Worlds[i].length [] (by omega) (by omega) (by simp)
  rw [show ((0:Nat):Int)=0 from rfl] at h0
  rw [M63,dec_lt_nat,decide_eq_true hil,cond_true,idx_lt hil,some_bind,fuel_sub,h0,some_bind,app_ok (by simp; omega) (by simp; omega),some_bind,w64_succ (by omega),ih (i+1) n _ (by omega) (by omega) (by simp; omega),List.drop_eq_getElem_cons hil]
  simp only [List.map_cons,List.append_assoc,List.nil_append,List.drop_zero,List.singleton_append]
def AscS (l:List TSpan):Prop:=l.Pairwise (fun s t=>s.Hi < t.Lo)∧∀ s,s ∈ l→s.Lo≤s.Hi
theorem ascS_of {l:List TSpan} (h:∀ i,i < l.length→SpOK l i):AscS l:=by
 have h2:∀ i (hi:i < l.length),l[i].Lo≤l[i].Hi:=fun i hi=>(h i hi _ (by simp [hi])).1
 have step:∀ i (hi:i+1 < l.length),l[i].Hi < l[i+1].Lo:=fun i hi=>(h (i+1) hi _ (by simp [hi])).2 (by omega) _ (by simp [show i < l.length by omega])
 refine ⟨?_,fun s hs=>?_⟩
 ·rw [List.pairwise_iff_getElem]
  have key:∀ (d i:Nat) (hj:i+1+d < l.length),l[i].Hi < l[i+1+d].Lo:=by
   intro d
   induction d with
   | zero=>intro i hj; exact step i hj
   | succ d ih =>
    intro i hj
    have a:=ih i (by omega)
    have b:=h2 (i+1+d) (by omega)
    have c:=step (i+1+d) (by omega)
    have e:l[i+1+(d+1)]=l[i+1+d+1]:=rfl
    rw [e]; omega
  intro i j hi hj hij
  have:=key (j - i - 1) i (by omega)
  have e:i+1+(j - i - 1)=j:=by omega
  simp only [e] at this
  exact this
 ·obtain ⟨i,hi,rfl⟩:=List.mem_iff_getElem.1 hs
  exact h2 i hi
theorem covL_none:∀ {l:List TSpan} {hi a:Int},(∀ s,s ∈ l→a < s.Lo)→covL l hi a=false
 | [],_,_,_=>rfl
 | s::r,hi,a,h=>by
  rw [covL,if_pos (.inl (h s List.mem_cons_self))]
  exact covL_none fun t ht=>h t (List.mem_cons_of_mem _ ht)
theorem covL_mono:∀ {l:List TSpan} {hi a hi' a':Int},AscS l→covL l hi a=true→hi≤288230376151711744→-288230376151711744≤a→a≤a'→a'≤hi'→hi'≤hi→covL l hi' a'=true
 | [],_,_,_,_,_,h,_,_,_,_,_=>by cases h
 | s::r,hi,a,hi',a',ho,h,hb,hb',h1,h2,h3=>by
  obtain ⟨hp,hs⟩:=ho
  rw [List.pairwise_cons] at hp
  have hor:AscS r:=⟨hp.2,fun t ht=>hs t (List.mem_cons_of_mem _ ht)⟩
  have hss:=hs s List.mem_cons_self
  rw [covL] at h ⊢
  by_cases c1:s.Lo > a∨a > s.Hi
  ·rw [if_pos c1] at h
   by_cases c2:s.Lo > a'∨a' > s.Hi
   ·rw [if_pos c2]; exact covL_mono hor h hb hb' h1 h2 h3
   ·exfalso
    rcases c1 with c1 | c1
    ·rw [covL_none (fun t ht=>by have:=hp.1 t ht; omega)] at h; cases h
    ·omega
  ·rw [if_neg c1] at h
   by_cases c3:s.Hi≥hi
   ·rw [if_neg (show ¬(s.Lo > a'∨a' > s.Hi) from by omega),if_pos (show s.Hi≥hi' from by omega)]
   ·rw [if_neg c3,w64_id ⟨by omega,by omega⟩] at h
    by_cases c2:s.Lo > a'∨a' > s.Hi
    ·rw [if_pos c2]; exact covL_mono hor h hb (by omega) (by omega) h2 h3
    ·rw [if_neg c2]
     by_cases c4:s.Hi≥hi'
     ·rw [if_pos c4]
     ·rw [if_neg c4,w64_id ⟨by omega,by omega⟩]
      exact covL_mono hor h hb (by omega) (Int.le_refl _) (by omega) h3
theorem QOK.nar {q:TQuestion} (hq:QOK q) {k:Nat} {a:TSpan} {r:TRunner} (hr:q.Field.Runners[k]?=some r) (hok:FieldOK (narF q.Field k a r)):QOK ⟨narF q.Field k a r,q.Runner,q.Looks⟩:=by
 refine ⟨hok,hq.lo,by show q.Runner < _; rw [narF_len]; exact hq.hi,hq.many,fun x hx=>?_⟩
 have hl:=hq.look x hx
 refine ⟨hl.lo,by show x.Runner < _; rw [narF_len]; exact hl.hi,hl.one,hl.four,hl.ord,fun p hp w hw o ho=>?_⟩
 have hp':(narF q.Field k a r).Runners[x.Runner.toNat]?=some p:=hp
 rw [narF_get] at hp'
 split at hp'
 ·rename_i h; cases hp'
  obtain ⟨w0,hw0,rfl⟩:=List.mem_map.1 (show w ∈ r.Worlds.map (cutW a) from hw)
  obtain ⟨o0,ho0,rfl,hle⟩:=cutW_mem ho
  have h0:=hl.cov r (by rw [← h.1]; exact hr) w0 hw0 o0 ho0
  have hro:=hq.field.runner k h.2 r hr
  obtain ⟨g1,g2,g3,g4,g5⟩:=(hro.2 w0 hw0 o0 ho0).2 h0.1
  refine ⟨h0.1,?_⟩
  show covL x.Answers (minG o0.Hi a.Hi) (maxG o0.Lo a.Lo)=true
  refine covL_mono (ascS_of hl.ord) h0.2 (by omega) g3 ?_ hle ?_
  ·unfold maxG; split <;> omega
  ·unfold minG; split <;> omega
 ·exact hl.cov p hp' w hw o ho
theorem containsL_eq {l:List TRunner} {w:Nat} (hl:l.length≤1000000) (hw:∀ r,r ∈ l→w < r.Worlds.length):∃ b,M61 l (w:Int)=some b∧(b=true↔¬Poss l w):=by
 unfold M61 M60
 rw [fuel_sub]
 obtain ⟨r,h1,h2⟩:=find_loop (N:=l.length) (f:=fun n i=>M58 l (w:Int) M59 n (i:Int)) (p:=fun i=>(wl l i w).length=0) (fun n i hi=>by
  show M58 l (w:Int) _ (n+1) (i:Int)=_
  rw [M58,dec_lt_nat,decide_eq_true hi,cond_true,idx_lt hi,some_bind,w64_succ (by omega)]
  unfold M57
  rw [wl_get hi (hw _ (List.getElem_mem hi)),some_bind,some_bind,bif_eq]
  by_cases h:(wl l i w).length=0
  ·rw [if_pos h,if_pos (by omega)]
  ·rw [if_neg h,if_neg (by omega)]) (fun n=>by
  show M58 l (w:Int) _ (n+1) ((l.length:Nat):Int)=_
  rw [M58]
  simp [M59])
 refine ⟨decide (r≥0),?_,?_⟩
 ·have h1:M58 l (w:Int) M59 (l.length+1) 0=some r:=h1
  rw [h1]; rfl
 ·rw [decide_eq_true_iff,h2]
  unfold Poss
  simp only [Classical.not_forall,Classical.not_not,exists_prop]
def zeroQ:TQuestion:=⟨⟨⟨[],[]⟩,[],[]⟩,0,[]⟩
theorem narF_wlen {f:TField} {k:Nat} {a:TSpan} {r:TRunner} (hk:f.Runners[k]?=some r) (hr:∀ p,p ∈ f.Runners→p.Worlds.length=f.Pairs.length+1):∀ p,p ∈ (narF f k a r).Runners→p.Worlds.length=f.Pairs.length+1:=by
 intro p hp
 unfold narF at hp
 rcases List.mem_or_eq_of_mem_set hp with h | h
 ·exact hr p h
 ·subst h
  unfold cutR
  simp only [List.length_map]
  exact hr r (List.mem_of_getElem? hk)
theorem looks_after_eq {q:TQuestion} (hs:Small q.Field) (hw:∀ p,p ∈ q.Field.Runners→p.Worlds.length=q.Field.Pairs.length+1) {x:TLook} {a:TSpan} {r:TRunner} (h0:0≤x.Runner) (h1:x.Runner < q.Field.Runners.length) (hr:q.Field.Runners[x.Runner.toNat]?=some r) :
  M66 q x a=chk (∀ w,w < q.Field.Pairs.length+1→¬Poss (narF q.Field x.Runner.toNat a r).Runners w) (⟨narF q.Field x.Runner.toNat a r,q.Runner,q.Looks⟩,true) (some (zeroQ,false)):=by
 obtain ⟨r',r1,r2,r3⟩:=idx_toNat h0 h1
 rw [hr] at r1; cases r1
 obtain ⟨w1,w2,w3⟩:=hs.worlds r r3
 have hrun:=hs.runners
 have hpr:=hs.pairs
 have hL1:=lafter_L1 (a:=a) w2 w3 r.Worlds.length 0 r.Worlds.length [] (by omega) (by omega) (by simp)
 rw [show ((0:Nat):Int)=0 from rfl,List.drop_zero,List.nil_append] at hL1
 unfold M66
 rw [clone_run hrun,some_bind,r2]
 simp only [some_bind]
 rw [fuel_sub,hL1]
 simp only [some_bind]
 rw [w64_succ (by omega),fuel_sub]
 refine chk_loop (N:=q.Field.Pairs.length+1) (f:=fun n w=>M64 q x q.Field.Runners r (r.Worlds.map (cutW a)) M65 n (w:Int)) (fun n w hwl=>?_) (fun n=>?_)
 ·show M64 q x q.Field.Runners r (r.Worlds.map (cutW a)) M65 (n+1) (w:Int)=_
  have hnw:=narF_wlen (a:=a) hr hw
  obtain ⟨b,hb1,hb2⟩:=containsL_eq (l:=(narF q.Field x.Runner.toNat a r).Runners) (w:=w) (by rw [narF_len]; exact hrun) (fun p hp=>by rw [hnw p hp]; exact hwl)
  have hb1:M61 (List.set q.Field.Runners (Int.toNat x.Runner) ({ Bib:=r.Bib,Keys:=r.Keys,Worlds:=r.Worlds.map (cutW a) }:TRunner)) (w:Int)=some b:=hb1
  rw [M64,w64_succ (by omega),dec_lt_nat,decide_eq_true hwl,cond_true,hb1,some_bind,w64_succ (by omega)]
  cases b with
  | true=>rw [chk_pos (hb2.1 rfl)]; rfl
  | false=>rw [chk_neg (fun h=>by simpa using hb2.2 h)]; rfl
 ·show M64 q x q.Field.Runners r (r.Worlds.map (cutW a)) M65 (n+1) ((q.Field.Pairs.length+1:Nat):Int)=_
  rw [M64,w64_succ (by omega)]
  simp [M65,zeroQ]
theorem looks_After_eq {q:TQuestion} (hs:Small q.Field) (hl:q.Looks.length≤1000) (hq:QOK q) {k i:Nat} (hk:k < q.Looks.length) (hi:i < q.Looks[k].Answers.length) {r:TRunner} (hr:q.Field.Runners[q.Looks[k].Runner.toNat]?=some r) :
  M67 q (k:Int) (i:Int)=if narB q.Field q.Looks[k].Runner.toNat q.Looks[k].Answers[i] r=true then some (⟨narF q.Field q.Looks[k].Runner.toNat q.Looks[k].Answers[i] r,q.Runner,q.Looks⟩,0) else some (zeroQ,360):=by
 have hx:=hq.look _ (List.getElem_mem hk)
 have hinv:=(hq.inv hs).look _ (List.getElem_mem hk)
 unfold M67
 rw [looks_Check_eq hs hl,chk_pos hq,some_bind,show ((0:Int) != 0)=false from rfl,cond_false,decide_eq_false (show ¬((k:Int) < 0) from by omega),cond_false,decide_eq_false (show ¬((k:Int)≥(q.Looks.length:Int)) from by omega),cond_false,decide_eq_false (show ¬((i:Int) < 0) from by omega),cond_false,idx_lt hk,some_bind,decide_eq_false (show ¬((i:Int)≥(q.Looks[k].Answers.length:Int)) from by omega),some_bind,cond_false,some_bind,some_bind,idx_lt hi,some_bind,looks_after_eq hs (worlds_of hq.field.runner) hx.lo hx.hi hr]
 have hok:=narF_ok hq.field hr (a:=q.Looks[k].Answers[i]) (hinv.2.2.2 r hr)
 by_cases h:∀ w,w < q.Field.Pairs.length+1→¬Poss (narF q.Field q.Looks[k].Runner.toNat q.Looks[k].Answers[i] r).Runners w
 ·rw [chk_pos h,some_bind,if_neg]
  ·rfl
  ·intro hb
   obtain ⟨w,a,b⟩:=hok.1 (narB_iff.1 hb)
   exact h w a b
 ·rw [chk_neg h,some_bind,if_pos]
  ·rfl
  ·refine narB_iff.2 (hok.2 ?_)
   simp only [Classical.not_forall,Classical.not_not,exists_prop] at h
   exact h
theorem sane36_true:M141=some true:=by decide +kernel
theorem neI (n:Int):(n != n)=false:=by simp
theorem eqI (n:Int):(n == n)=true:=by simp
structure SQ (q:TQuestion):Prop where
 small:Small q.Field
 ok:QOK q
noncomputable def ansQ (q:TQuestion) (k i:Nat):Option TQuestion :=
 match q.Looks[k]? with
 | none=>none
 | some x=>match x.Answers[i]?,q.Field.Runners[x.Runner.toNat]? with
  | some a,some r=>if narB q.Field x.Runner.toNat a r=true then some ⟨narF q.Field x.Runner.toNat a r,q.Runner,q.Looks⟩ else none
  | _,_=>none
theorem SQ.at {q:TQuestion} (h:SQ q) {k:Nat} (hk:k < q.Looks.length):∃ r,q.Field.Runners[q.Looks[k].Runner.toNat]?=some r∧idx q.Field.Runners q.Looks[k].Runner=some r∧r ∈ q.Field.Runners:=by
 have hx:=h.ok.look _ (List.getElem_mem hk)
 exact idx_toNat hx.lo hx.hi
theorem SQ.inv {q:TQuestion} (h:SQ q):Inv q.Field q.Looks:=h.ok.inv h.small
theorem ansQ_eq {q:TQuestion} {k i:Nat} (hk:k < q.Looks.length) (hi:i < q.Looks[k].Answers.length) {r:TRunner} (hr:q.Field.Runners[q.Looks[k].Runner.toNat]?=some r) :
  ansQ q k i=if narB q.Field q.Looks[k].Runner.toNat q.Looks[k].Answers[i] r=true then some ⟨narF q.Field q.Looks[k].Runner.toNat q.Looks[k].Answers[i] r,q.Runner,q.Looks⟩ else none:=by
 unfold ansQ
 rw [List.getElem?_eq_getElem hk]
 dsimp only
 rw [List.getElem?_eq_getElem hi,hr]
theorem ansQ_some {q:TQuestion} (h:SQ q) {k i:Nat} {q':TQuestion} (ha:ansQ q k i=some q'):∃ hk:k < q.Looks.length,∃ hi:i < q.Looks[k].Answers.length,∃ r,q.Field.Runners[q.Looks[k].Runner.toNat]?=some r∧FieldOK (narF q.Field q.Looks[k].Runner.toNat q.Looks[k].Answers[i] r)∧q'=⟨narF q.Field q.Looks[k].Runner.toNat q.Looks[k].Answers[i] r,q.Runner,q.Looks⟩:=by
 have hk:k < q.Looks.length:=by
  rcases Nat.lt_or_ge k q.Looks.length with hk | hk
  ·exact hk
  ·unfold ansQ at ha; rw [List.getElem?_eq_none hk] at ha; cases ha
 have hi:i < q.Looks[k].Answers.length:=by
  rcases Nat.lt_or_ge i q.Looks[k].Answers.length with hi | hi
  ·exact hi
  ·unfold ansQ at ha; rw [List.getElem?_eq_getElem hk] at ha; dsimp only at ha; rw [List.getElem?_eq_none hi] at ha; cases ha
 obtain ⟨r,hr,_,_⟩:=h.at hk
 rw [ansQ_eq hk hi hr] at ha
 split at ha
 ·rename_i hb
  cases ha
  exact ⟨hk,hi,r,hr,narB_iff.1 hb,rfl⟩
 ·cases ha
theorem SQ.next {q:TQuestion} (h:SQ q) {k i:Nat} {q':TQuestion} (ha:ansQ q k i=some q'):SQ q'∧q'.Looks=q.Looks∧q'.Runner=q.Runner:=by
 obtain ⟨hk,hi,r,hr,hok,rfl⟩:=ansQ_some h ha
 exact ⟨⟨narF_small h.small (List.mem_of_getElem? hr),h.ok.nar hr hok⟩,rfl,rfl⟩
theorem After_ans {q:TQuestion} (h:SQ q) {k i:Nat} (hk:k < q.Looks.length) (hi:i < q.Looks[k].Answers.length) :
  M67 q (k:Int) (i:Int)=some (match ansQ q k i with
   | some q'=>(q',0)
   | none=>(zeroQ,360)):=by
 obtain ⟨r,hr,_,_⟩:=h.at hk
 rw [looks_After_eq h.small (by have:=h.ok.many; omega) h.ok hk hi hr,ansQ_eq hk hi hr]
 split <;> rfl
theorem go_loop {β:Type} {N:Nat} {f:Nat→Nat→Option β} {k:Option β} (hs:∀ n i,i < N→f (n+1) i=f n (i+1)) (he:∀ n,f (n+1) N=k):f (N+1) 0=k:=by
 have key:∀ c i n,i+c=N→c≤n→f (n+1) i=k:=by
  intro c
  induction c with
  | zero=>intro i n h _; rw [show i=N by omega]; exact he n
  | succ c ih =>
   intro i n h hn
   obtain ⟨n,rfl⟩:∃ n',n=n'+1:=⟨n - 1,by omega⟩
   rw [hs _ _ (by omega)]
   exact ih (i+1) n (by omega) (by omega)
 exact key N 0 N (by omega) (by omega)
theorem same07l {l:List Int} (hl:l.length≤140737488351232):M210 l l=some true:=by
 unfold M210
 rw [neI,cond_false,fuel_sub]
 refine go_loop (f:=fun n i=>M208 l l M209 n (i:Int)) (fun n i hi=>?_) (fun n=>?_)
 ·show M208 l l _ (n+1) (i:Int)=_
  rw [M208,dec_lt_nat,decide_eq_true hi,cond_true,idx_lt hi,some_bind,w64_succ (by omega)]
  simp
 ·show M208 l l _ (n+1) ((l.length:Nat):Int)=_
  rw [M208,dec_lt_nat,decide_eq_false (by omega),cond_false]; rfl
theorem same16s {l:List TSegment} (hl:l.length≤140737488351232):M207 l l=some true:=by
 unfold M207
 rw [neI,cond_false,fuel_sub]
 refine go_loop (f:=fun n i=>M205 l l M206 n (i:Int)) (fun n i hi=>?_) (fun n=>?_)
 ·show M205 l l _ (n+1) (i:Int)=_
  rw [M205,dec_lt_nat,decide_eq_true hi,cond_true,idx_lt hi,some_bind,w64_succ (by omega)]
  simp
 ·show M205 l l _ (n+1) ((l.length:Nat):Int)=_
  rw [M205,dec_lt_nat,decide_eq_false (by omega),cond_false]; rfl
theorem same16 {k:TClocks} (h1:k.Segments.length≤140737488351232) (h2:k.Far.length≤140737488351232) (h3:∀ r,r ∈ k.Far→r.length≤140737488351232):M213 k k=some true:=by
 unfold M213
 rw [same16s h1,some_bind,Bool.not_true,cond_false,neI,cond_false,fuel_sub]
 refine go_loop (f:=fun n i=>M211 k k M212 n (i:Int)) (fun n i hi=>?_) (fun n=>?_)
 ·show M211 k k _ (n+1) (i:Int)=_
  rw [M211,dec_lt_nat,decide_eq_true hi,cond_true,idx_lt hi,some_bind,some_bind,same07l (h3 _ (List.getElem_mem hi)),some_bind,w64_succ (by omega)]
  rfl
 ·show M211 k k _ (n+1) ((k.Far.length:Nat):Int)=_
  rw [M211,dec_lt_nat,decide_eq_false (by omega),cond_false]; rfl
theorem same18 {l:List TPair} (hl:l.length≤140737488351232):M216 l l=some true:=by
 unfold M216
 rw [neI,cond_false,fuel_sub]
 refine go_loop (f:=fun n i=>M214 l l M215 n (i:Int)) (fun n i hi=>?_) (fun n=>?_)
 ·show M214 l l _ (n+1) (i:Int)=_
  rw [M214,dec_lt_nat,decide_eq_true hi,cond_true,idx_lt hi,some_bind,w64_succ (by omega)]
  simp
 ·show M214 l l _ (n+1) ((l.length:Nat):Int)=_
  rw [M214,dec_lt_nat,decide_eq_false (by omega),cond_false]; rfl
theorem same23 {l:List TOutcome} (hl:l.length≤140737488351232):M219 l l=some true:=by
 unfold M219
 rw [neI,cond_false,fuel_sub]
 refine go_loop (f:=fun n i=>M217 l l M218 n (i:Int)) (fun n i hi=>?_) (fun n=>?_)
 ·show M217 l l _ (n+1) (i:Int)=_
  rw [M217,dec_lt_nat,decide_eq_true hi,cond_true,idx_lt hi,some_bind,w64_succ (by omega)]
  simp
 ·show M217 l l _ (n+1) ((l.length:Nat):Int)=_
  rw [M217,dec_lt_nat,decide_eq_false (by omega),cond_false]; rfl
theorem same24w {l:List (List TOutcome)} (hl:l.length≤140737488351232) (h:∀ w,w ∈ l→w.length≤140737488351232):M222 l l=some true:=by
 unfold M222
 rw [neI,cond_false,fuel_sub]
 refine go_loop (f:=fun n i=>M220 l l M221 n (i:Int)) (fun n i hi=>?_) (fun n=>?_)
 ·show M220 l l _ (n+1) (i:Int)=_
  rw [M220,dec_lt_nat,decide_eq_true hi,cond_true,idx_lt hi,some_bind,some_bind,same23 (h _ (List.getElem_mem hi)),some_bind,w64_succ (by omega)]
  rfl
 ·show M220 l l _ (n+1) ((l.length:Nat):Int)=_
  rw [M220,dec_lt_nat,decide_eq_false (by omega),cond_false]; rfl
structure Mid (f:TField):Prop where
 seg:f.Clocks.Segments.length≤140737488351232
 far:f.Clocks.Far.length≤140737488351232
 row:∀ r,r ∈ f.Clocks.Far→r.length≤140737488351232
theorem same24 {f:TField} (hs:Small f) (hm:Mid f):M226 f f=some true:=by
 have h1:=hs.pairs
 have h2:=hs.runners
 unfold M226
 rw [same16 hm.seg hm.far hm.row,some_bind,Bool.not_true,cond_false,same18 (by omega),some_bind,Bool.not_true,cond_false,neI,cond_false,fuel_sub]
 refine go_loop (f:=fun n i=>M224 f f M225 n (i:Int)) (fun n i hi=>?_) (fun n=>?_)
 ·obtain ⟨g1,g2,g3⟩:=hs.worlds _ (List.getElem_mem hi)
  show M224 f f _ (n+1) (i:Int)=_
  rw [M224,dec_lt_nat,decide_eq_true hi,cond_true,idx_lt hi,some_bind,some_bind,M223,eqI,cond_true,same07l (by omega),some_bind,cond_true,same24w (by omega) (fun w hw=>by have:=g3 w hw; omega),some_bind,some_bind,w64_succ (by omega)]
  rfl
 ·show M224 f f _ (n+1) ((f.Runners.length:Nat):Int)=_
  rw [M224,dec_lt_nat,decide_eq_false (by omega),cond_false]; rfl
theorem sameLooks {l:List TLook} (hl:l.length≤140737488351232) (h:∀ x,x ∈ l→x.Answers.length≤140737488351232):M231 l l=some true:=by
 unfold M231
 rw [neI,cond_false,fuel_sub]
 refine go_loop (f:=fun n i=>M229 l l M230 n (i:Int)) (fun n i hi=>?_) (fun n=>?_)
 ·have hx:=h _ (List.getElem_mem hi)
  show M229 l l _ (n+1) (i:Int)=_
  rw [M229,dec_lt_nat,decide_eq_true hi,cond_true,idx_lt hi,some_bind,some_bind,neI,cond_false,some_bind,some_bind,neI,cond_false,Option.getD_some,fuel_sub]
  generalize hJ:M228 (i:Int) (M229 l l M230 n)=J
  have h2:=go_loop (N:=l[i].Answers.length) (f:=fun n k=>M227 l l (i:Int) J n (k:Int)) (k:=J ()) (fun n k hk=>by
   show M227 l l (i:Int) J (n+1) (k:Int)=_
   rw [M227,idx_lt hi,some_bind,dec_lt_nat,decide_eq_true hk,cond_true,some_bind,idx_lt hk,some_bind,some_bind,idx_lt hk,some_bind,w64_succ (by omega)]
   simp) (fun n=>by
   show M227 l l (i:Int) J (n+1) ((l[i].Answers.length:Nat):Int)=_
   rw [M227,idx_lt hi,some_bind,dec_lt_nat,decide_eq_false (by omega),cond_false])
  refine h2.trans ?_
  rw [← hJ,M228,w64_succ (by omega)]
 ·show M229 l l _ (n+1) ((l.length:Nat):Int)=_
  rw [M229,dec_lt_nat,decide_eq_false (by omega),cond_false]; rfl
theorem same36 {q:TQuestion} (hs:Small q.Field) (hm:Mid q.Field) (hl:q.Looks.length≤140737488351232) (h:∀ x,x ∈ q.Looks→x.Answers.length≤140737488351232):M232 q q=some true:=by
 unfold M232
 rw [same24 hs hm,some_bind,cond_true,eqI,cond_true,sameLooks hl h]; rfl
theorem few36_L1 {q:TQuestion} (hl:q.Looks.length≤140737488351232) (kk:Unit→Option Bool):M149 q kk (q.Looks.length+1) 0=chk (∀ i (h:i < q.Looks.length),q.Looks[i].Answers.length≤5) false (kk ()):=by
 have:=chk_loop (N:=q.Looks.length) (f:=fun n i=>M149 q kk n (i:Int)) (r:=false) (ok:=fun i=>∀ h:i < q.Looks.length,q.Looks[i].Answers.length≤5) (k:=kk ()) (fun n i hi=>by
  show M149 q kk (n+1) (i:Int)=_
  rw [M149,dec_lt_nat,decide_eq_true hi,cond_true,idx_lt hi,some_bind,w64_succ (by omega)]
  unfold chk
  by_cases h:q.Looks[i].Answers.length≤5
  ·rw [decide_eq_false (by omega),cond_false,if_pos (fun _=>h)]
  ·rw [decide_eq_true (by omega),cond_true,if_neg (fun hh=>h (hh hi))]) (fun n=>by
  show M149 q kk (n+1) ((q.Looks.length:Nat):Int)=_
  rw [M149,dec_lt_nat,decide_eq_false (by omega),cond_false])
 refine this.trans ?_
 unfold chk
 by_cases h:∀ i (h:i < q.Looks.length),q.Looks[i].Answers.length≤5
 ·rw [if_pos (fun i _ hh=>h i hh),if_pos h]
 ·rw [if_neg (fun hh=>h fun i hi=>hh i hi hi),if_neg h]
theorem few36_eq {q:TQuestion} (hq:wTField q.Field) (hl:q.Looks.length≤140737488351232):∃ b,M151 q=some b∧(b=true→Small q.Field∧q.Looks.length≤4∧∀ x,x ∈ q.Looks→x.Answers.length≤5):=by
 unfold M151
 rw [fuel_sub,few36_L1 hl]
 by_cases ha:∀ i (h:i < q.Looks.length),q.Looks[i].Answers.length≤5
 ·rw [chk_pos ha,M150]
  obtain ⟨b,h1,h2⟩:=few24_eq hq
  rw [h1,some_bind]
  cases b with
  | false=>exact ⟨false,rfl,fun h=>by cases h⟩
  | true =>
   refine ⟨_,rfl,fun h=>⟨(h2 rfl).1,?_,fun x hx=>?_⟩⟩
   ·have:=of_decide_eq_true h; omega
   ·obtain ⟨i,hi,rfl⟩:=List.mem_iff_getElem.1 hx
    exact ha i hi
 ·rw [chk_neg ha]
  exact ⟨false,rfl,fun h=>by cases h⟩
theorem cut_eq {a:TSpan} {l:List TOutcome} (hl:l.length≤1000):M199 l a=some (cutW a l):=by
 unfold M199
 have key:∀ (c i n:Nat) (acc:List TOutcome),i+c=l.length→c≤n→acc.length≤i→M198 l a (n+1) (i:Int) acc=some (acc++cutW a (l.drop i)):=by
  intro c
  induction c with
  | zero =>
   intro i n acc hi _ ha
   rw [M198,dec_lt_nat,decide_eq_false (by omega),cond_false,List.drop_eq_nil_of_le (by omega)]
   simp [cutW]
  | succ c ih =>
   intro i n acc hi hn ha
   obtain ⟨n,rfl⟩:∃ n',n=n'+1:=⟨n - 1,by omega⟩
   have hil:i < l.length:=by omega
   rw [M198,dec_lt_nat,decide_eq_true hil,cond_true,idx_lt hil,some_bind,w64_succ (by omega),List.drop_eq_getElem_cons hil]
   unfold cutW
   rw [List.filterMap_cons]
   by_cases h:maxG l[i].Lo a.Lo≤minG l[i].Hi a.Hi
   ·rw [decide_eq_true h,cond_true,app_ok (by simp; omega) (by simp; omega),some_bind,ih (i+1) n _ (by omega) (by omega) (by simp; omega)]
    rw [show cutO a l[i]=some ⟨l[i].Out,l[i].Seg,maxG l[i].Lo a.Lo,minG l[i].Hi a.Hi⟩ from by unfold cutO; rw [if_pos h]]
    simp [cutW]
   ·rw [decide_eq_false h,cond_false,ih (i+1) n _ (by omega) (by omega) (by omega)]
    rw [show cutO a l[i]=none from by unfold cutO; rw [if_neg h]]
    rfl
 rw [fuel_sub,show (0:Int)=((0:Nat):Int) from rfl,key l.length 0 l.length [] (by omega) (by omega) (by simp)]
 simp
theorem rafter_L1 {x:TLook} {i:Nat} (hi:i < x.Answers.length) {r:TRunner} (h1:r.Worlds.length≤1000) (h2:∀ w,w ∈ r.Worlds→w.length≤1000):∀ (c j n:Nat) (acc:List (List TOutcome)),j+c=r.Worlds.length→c≤n→acc.length≤j→M200 (i:Int) x r (n+1) (j:Int) acc=some (acc++(r.Worlds.drop j).map (cutW x.Answers[i])):=by
 intro c
 induction c with
 | zero =>
  intro j n acc hj _ ha
  rw [M200,dec_lt_nat,decide_eq_false (by omega),cond_false,List.drop_eq_nil_of_le (by omega)]
  simp
 | succ c ih =>
  intro j n acc hj hn ha
  obtain ⟨n,rfl⟩:∃ n',n=n'+1:=⟨n - 1,by omega⟩
  have hjl:j < r.Worlds.length:=by omega
  rw [M200,dec_lt_nat,decide_eq_true hjl,cond_true,idx_lt hjl,some_bind,idx_lt hi,some_bind,cut_eq (h2 _ (List.getElem_mem hjl)),some_bind,app_ok (by simp; omega) (by simp; omega),some_bind,w64_succ (by omega),ih (j+1) n _ (by omega) (by omega) (by simp; omega),List.drop_eq_getElem_cons hjl]
  simp only [List.map_cons,List.append_assoc,List.singleton_append]
theorem rafter_eq {q:TQuestion} (h:SQ q) {k i:Nat} (hk:k < q.Looks.length) (hi:i < q.Looks[k].Answers.length) :
  M203 q (k:Int) (i:Int)=some (match ansQ q k i with
   | some q'=>(q',true)
   | none=>(zeroQ,false)):=by
 obtain ⟨r,hr,r2,r3⟩:=h.at hk
 have hinv:=h.inv.look _ (List.getElem_mem hk)
 obtain ⟨w1,w2,w3⟩:=h.small.worlds r r3
 have hrun:=h.small.runners
 have hpr:=h.small.pairs
 have hL1:=rafter_L1 hi w2 w3 r.Worlds.length 0 r.Worlds.length [] (by omega) (by omega) (by simp)
 rw [show ((0:Nat):Int)=0 from rfl,List.drop_zero,List.nil_append] at hL1
 have hok:=narF_ok h.ok.field hr (a:=q.Looks[k].Answers[i]) (hinv.2.2.2 r hr)
 have hnw:=narF_wlen (a:=q.Looks[k].Answers[i]) hr (worlds_of h.ok.field.runner)
 have hs':Small (narF q.Field q.Looks[k].Runner.toNat q.Looks[k].Answers[i] r):=narF_small h.small r3
 unfold M203
 rw [idx_lt hk,some_bind,app_ok (by simp; omega) (by simp; omega),some_bind,List.nil_append,r2]
 simp only [some_bind]
 rw [fuel_sub,hL1]
 simp only [some_bind]
 rw [fuel_add]
 have hL2:=chk_loop (N:=q.Field.Pairs.length+1) (f:=fun n w=>M201 q q.Looks[k] q.Field.Runners r (r.Worlds.map (cutW q.Looks[k].Answers[i])) M202 n (w:Int)) (r:=((⟨narF q.Field q.Looks[k].Runner.toNat q.Looks[k].Answers[i] r,q.Runner,q.Looks⟩:TQuestion),true)) (ok:=fun w=>¬Poss (narF q.Field q.Looks[k].Runner.toNat q.Looks[k].Answers[i] r).Runners w) (k:=some (zeroQ,false)) (fun n w hw=>by
  show M201 q q.Looks[k] q.Field.Runners r (r.Worlds.map (cutW q.Looks[k].Answers[i])) M202 (n+1) (w:Int)=_
  have h1:=ref24_Possible_eq hs' hnw (w:=w) hw
  unfold narF cutR at h1
  rw [M201,dec_le_nat,decide_eq_true hw,cond_true,h1,w64_succ (by omega)]
  by_cases hp:Poss (narF q.Field q.Looks[k].Runner.toNat q.Looks[k].Answers[i] r).Runners w
  ·rw [chk_pos (show Poss (q.Field.Runners.set q.Looks[k].Runner.toNat ⟨r.Bib,r.Keys,r.Worlds.map (cutW q.Looks[k].Answers[i])⟩) w from hp),chk_neg (fun h'=>h' hp)]; rfl
  ·rw [chk_neg (show ¬Poss (q.Field.Runners.set q.Looks[k].Runner.toNat ⟨r.Bib,r.Keys,r.Worlds.map (cutW q.Looks[k].Answers[i])⟩) w from hp),chk_pos hp]; rfl) (fun n=>by
  show M201 q q.Looks[k] q.Field.Runners r (r.Worlds.map (cutW q.Looks[k].Answers[i])) M202 (n+1) ((q.Field.Pairs.length+1:Nat):Int)=_
  rw [M201,dec_le_nat,decide_eq_false (by omega),cond_false]; rfl)
 refine hL2.trans ?_
 rw [ansQ_eq hk hi hr]
 by_cases hp:∀ w,w < q.Field.Pairs.length+1→¬Poss (narF q.Field q.Looks[k].Runner.toNat q.Looks[k].Answers[i] r).Runners w
 ·rw [chk_pos hp,if_neg]
  intro hb
  obtain ⟨w,a,b⟩:=hok.1 (narB_iff.1 hb)
  exact hp w a b
 ·rw [chk_neg hp,if_pos]
  refine narB_iff.2 (hok.2 ?_)
  simp only [Classical.not_forall,Classical.not_not,exists_prop] at hp
  exact hp
theorem mid_of {f:TField} (h:wTField f):Mid f:=by
 obtain ⟨⟨h1,h2⟩,_⟩:=h
 exact ⟨h1.1,h2.1,fun r hr=>(h2.2 r hr).1⟩
theorem zeroQ_same:M232 zeroQ zeroQ=some true:=by decide +kernel
theorem After_both {q:TQuestion} (hs:Small q.Field) (hm:Mid q.Field) (hl:q.Looks.length≤1000) (hla:∀ x,x ∈ q.Looks→x.Answers.length≤5) (a b:Int) :
  ∃ x e,M67 q a b=some (x,e)∧M204 q a b=some (x,e)∧M232 x x=some true:=by
 by_cases hq:QOK q
 ·by_cases h0:0≤a∧a < q.Looks.length
  ·obtain ⟨k,rfl⟩:∃ k:Nat,a=(k:Int):=⟨a.toNat,by omega⟩
   have hk:k < q.Looks.length:=by omega
   by_cases h1:0≤b∧b < q.Looks[k].Answers.length
   ·obtain ⟨i,rfl⟩:∃ i:Nat,b=(i:Int):=⟨b.toNat,by omega⟩
    have hi:i < q.Looks[k].Answers.length:=by omega
    have hS:SQ q:=⟨hs,hq⟩
    have hR:M204 q (k:Int) (i:Int)=some (match ansQ q k i with
      | some q'=>(q',0)
      | none=>(zeroQ,360)):=by
     unfold M204
     rw [ref36_Check_eq hs hl,chk_pos hq,some_bind,show ((0:Int) != 0)=false from rfl,cond_false,decide_eq_false (show ¬((k:Int) < 0) from by omega),cond_false,decide_eq_false (show ¬((k:Int)≥(q.Looks.length:Int)) from by omega),cond_false,decide_eq_false (show ¬((i:Int) < 0) from by omega),cond_false,idx_lt hk,some_bind,decide_eq_false (show ¬((i:Int)≥(q.Looks[k].Answers.length:Int)) from by omega),some_bind,cond_false,rafter_eq hS hk hi,some_bind]
     cases ansQ q k i <;> rfl
    rw [After_ans hS hk hi,hR]
    cases ha:ansQ q k i with
    | none=>exact ⟨zeroQ,360,rfl,rfl,zeroQ_same⟩
    | some q' =>
     obtain ⟨n1,n2,n3⟩:=hS.next ha
     obtain ⟨_,_,r,_,_,rfl⟩:=ansQ_some hS ha
     exact ⟨_,0,rfl,rfl,same36 n1.small ⟨hm.seg,hm.far,hm.row⟩ (by show q.Looks.length≤_; omega) (fun x hx=>by have:=hla x hx; omega)⟩
   ·refine ⟨zeroQ,1,?_,?_,zeroQ_same⟩
    ·unfold M67
     rw [looks_Check_eq hs hl,chk_pos hq,some_bind,show ((0:Int) != 0)=false from rfl,cond_false,decide_eq_false (show ¬((k:Int) < 0) from by omega),cond_false,decide_eq_false (show ¬((k:Int)≥(q.Looks.length:Int)) from by omega),cond_false,idx_lt hk]
     by_cases hb:b < 0
     ·rw [decide_eq_true hb]; rfl
     ·rw [decide_eq_false hb,cond_false,some_bind,decide_eq_true (show b≥(q.Looks[k].Answers.length:Int) from by omega)]; rfl
    ·unfold M204
     rw [ref36_Check_eq hs hl,chk_pos hq,some_bind,show ((0:Int) != 0)=false from rfl,cond_false,decide_eq_false (show ¬((k:Int) < 0) from by omega),cond_false,decide_eq_false (show ¬((k:Int)≥(q.Looks.length:Int)) from by omega),cond_false,idx_lt hk]
     by_cases hb:b < 0
     ·rw [decide_eq_true hb]; rfl
     ·rw [decide_eq_false hb,cond_false,some_bind,decide_eq_true (show b≥(q.Looks[k].Answers.length:Int) from by omega)]; rfl
  ·refine ⟨zeroQ,1,?_,?_,zeroQ_same⟩
   ·unfold M67
    rw [looks_Check_eq hs hl,chk_pos hq,some_bind,show ((0:Int) != 0)=false from rfl,cond_false]
    by_cases ha:a < 0
    ·rw [decide_eq_true ha]; rfl
    ·rw [decide_eq_false ha,cond_false,decide_eq_true (show a≥(q.Looks.length:Int) from by omega)]; rfl
   ·unfold M204
    rw [ref36_Check_eq hs hl,chk_pos hq,some_bind,show ((0:Int) != 0)=false from rfl,cond_false]
    by_cases ha:a < 0
    ·rw [decide_eq_true ha]; rfl
    ·rw [decide_eq_false ha,cond_false,decide_eq_true (show a≥(q.Looks.length:Int) from by omega)]; rfl
 ·refine ⟨zeroQ,360,?_,?_,zeroQ_same⟩
  ·unfold M67; rw [looks_Check_eq hs hl,chk_neg hq]; rfl
  ·unfold M204; rw [ref36_Check_eq hs hl,chk_neg hq]; rfl
theorem LooksAfterSpec_true (y0:TQuestion) (y1:Int) (y2:Int) (w0:wTQuestion y0) (_w1:wI y1) (_w2:wI y2):M235 y0 y1 y2=some true:=by
 unfold M235
 rw [sane36_true,some_bind,Bool.not_true,cond_false]
 obtain ⟨b,h1,h2⟩:=few36_eq (q:=y0) w0.1 w0.2.2.1
 rw [h1,some_bind]
 cases b with
 | false=>rfl
 | true =>
  obtain ⟨hs,hl,hla⟩:=h2 rfl
  have hm:=mid_of w0.1
  rw [Bool.not_true,cond_false]
  generalize hL:([({ a0:=y1,a1:=y2 }:TA2_i64),({ a0:=0,a1:=0 }:TA2_i64),({ a0:=0,a1:=1 }:TA2_i64),({ a0:=1,a1:=0 }:TA2_i64),({ a0:=1,a1:=1 }:TA2_i64)]:List TA2_i64)=L
  have hlen:L.length=5:=by rw [← hL]; rfl
  refine (go_loop (N:=5) (f:=fun n i=>M233 y0 y1 y2 (M234 y0) n (i:Int)) (k:=some true) (fun n i hi=>?_) (fun n=>?_) :)
  ·show M233 y0 y1 y2 _ (n+1) (i:Int)=_
   rw [M233,hL,decide_eq_true (show (i:Int) < 5 from by omega),cond_true,idx_lt (show i < L.length by omega),some_bind]
   obtain ⟨x,e,g1,g2,g3⟩:=After_both hs hm (by omega) hla L[i].a0 L[i].a1
   rw [g1,g2]
   simp only [some_bind]
   rw [g3,some_bind,Bool.not_true,cond_false,neI,cond_false,w64_succ (by omega)]
  ·show M233 y0 y1 y2 _ (n+1) ((5:Nat):Int)=_
   rw [M233,decide_eq_false (by omega),cond_false,M234,looks_Check_eq hs (by omega),ref36_Check_eq hs (by omega)]
   by_cases hq:QOK y0
   ·rw [chk_pos hq]; rfl
   ·rw [chk_neg hq]; rfl
def Msk (m:Nat) (u:List Bool):Prop:=m < 8∧∀ k (h:k < u.length),u[k]=m.testBit k
theorem bit_or:∀ (m:Fin 8) (k:Fin 3),bitK .u64 (BitVec.ofInt 64 ((m.val:Nat):Int) ||| BitVec.ofInt 64 (shlK .u64 1 ((k.val:Nat):Int)))=((m.val ||| 2 ^ k.val:Nat):Int)∧m.val ||| 2 ^ k.val < 8∧∀ j:Fin 3,(m.val ||| 2 ^ k.val).testBit j.val=(if j.val=k.val then true else m.val.testBit j.val):=by decide
theorem Msk.set {m:Nat} {u:List Bool} (h:Msk m u) {k:Nat} (hk:k < u.length) (h3:u.length≤3):Msk (m ||| 2 ^ k) (u.set k true):=by
 obtain ⟨_,b,c⟩:=bit_or ⟨m,h.1⟩ ⟨k,by omega⟩
 refine ⟨b,fun j hj=>?_⟩
 rw [List.length_set] at hj
 rw [c ⟨j,by omega⟩,List.getElem_set]
 by_cases hjk:k=j
 ·rw [if_pos hjk,if_pos hjk.symm]
 ·rw [if_neg hjk,if_neg (fun h=>hjk h.symm)]
  exact h.2 j hj
end Go.Stop
