/- Slices that the frame makes: literals, make, append, reslicing: the abstract operations and why they are sound. No condition. -/
import Derived.Test.YthandbiapckgkaaZA6
import Derived.Deep.Upon
import Derived.IntWalk
namespace Go.Abs
variable {P:Program} {X:Nat→Prop} {m m':Mp} {H:Hp} {w w':World}
/- Literals. -/
def bsK (size:Nat):Nat→List (Nat × AV)→(List AV→Prop)→Prop
 | _,[],k=>k []
 | i,(j,v)::r,k=>bif Nat.beq i j then celK v (fun vs=>bif Nat.beq vs.length size then bsK size (i+1) r (fun es=>k (v::es)) else False) else False
theorem bs_ok {size:Nat} (ρ:Operand→Value) (σ:Operand→AV) (hρ:∀ x,V X m w (ρ x) (σ x)):∀ (parts:List (Nat × Operand)) (i:Nat) (cells:Array Value) {k:List AV→Prop},
  bsK size i (parts.map fun p=>(p.1,σ p.2)) k→i * size+parts.length * size≤cells.size →
  ∃ cells' es,Instr.fill (fun i=>some (i * size,size)) cells (parts.map fun p=>(p.1,ρ p.2))=some cells'∧cells'.size=cells.size∧es.length=parts.length∧(∀ p,p < i * size→cells'[p]?=cells[p]?) ∧
   (∀ (j:Nat) e,es[j]?=some e→e.cells.length=size∧∀ (l:Nat) c,e.cells[l]?=some c→∃ v,cells'[(i+j) * size+l]?=some v∧C X m w v c)∧k es
 | [],i,cells,k,h,_=>⟨cells,[],rfl,rfl,rfl,fun _ _=>rfl,fun j e h=>by simp at h,h⟩
 | (j,x)::r,i,cells,k,h,hf=>by
  simp only [bsK,List.map_cons] at h
  cases hij:Nat.beq i j with
  | false=>rw [hij] at h; exact h.elim
  | true =>
  rw [hij] at h
  obtain rfl:=Nat.eq_of_beq_eq_true hij
  replace h:=celK_ok h
  obtain ⟨hp,h⟩:=h
  cases hq:Nat.beq (σ x).cells.length size with
  | false=>rw [hq] at h; exact h.elim
  | true =>
  rw [hq] at h
  have hq:=Nat.eq_of_beq_eq_true hq
  obtain ⟨hsz,hcel⟩:=(hρ x).cells hp
  have e:((ρ x).cells.zipIdx.foldl (fun cs (c,j)=>cs.setIfInBounds (i * size+j) c) cells)=(((ρ x).cells.toList.zipIdx 0).foldl (fun (cs:Array Value) (x:Value × Nat)=>cs.setIfInBounds (i * size+x.2) x.1) cells):=by
   rw [← Array.foldl_toList,Array.toList_zipIdx]
  rw [List.length_cons,Nat.succ_mul] at hf
  obtain ⟨h1,h2⟩:=foldSet (i * size) (ρ x).cells.toList 0 cells (by simp [hsz]; omega)
  rw [← e] at h1 h2
  obtain ⟨cells',es,hfill,hs',hlen,hlow,hes,hk⟩:=bs_ok ρ σ hρ r (i+1) _ h (by rw [h1,Nat.succ_mul]; omega)
  refine ⟨cells',σ x::es,?_,hs'.trans h1,by simp [hlen],fun p hp=>?_,fun j' e' he'=>?_,hk⟩
  ·simp only [Instr.fill,List.map_cons]
   rw [if_neg (by simp [hsz,hq]; omega)]
   exact hfill
  ·rw [hlow p (by rw [Nat.succ_mul]; omega),h2 p,if_neg (by omega)]
  ·cases j' with
   | zero =>
    simp at he'
    subst he'
    refine ⟨hq,fun l c hc=>?_⟩
    have hll:l < size:=by rw [← hq]; exact (List.getElem?_eq_some_iff.1 hc).1
    obtain ⟨u,hu,hC⟩:=hcel l c hc
    refine ⟨u,?_,hC⟩
    rw [hlow _ (by rw [Nat.succ_mul]; simp; omega),h2,if_pos (by simp; omega)]
    simpa using hu
   | succ j' =>
    simp at he'
    obtain ⟨a,b⟩:=hes j' e' he'
    exact ⟨a,by rwa [show i+1+j'=i+(j'+1) by omega] at b⟩
theorem VOK.newSlice {el:TypeId} {cells:Array Value} {q n:Nat} {es:List AV} {s:Sem Value} {k:AV→Hp→Prop} (hs:s.run P w=.ok (.slice (some ⟨w.heap.size,0,none⟩) n n) (w.alloc (.cells cells el))) (hh:HRel X m H w)
  (hn:n * q≤cells.size) (hB:BRel X m w cells (.arr q es)) (hk:k (.sl H.length q 0 n) (H++[some (.arr q es)])):VOK P X m w s k :=
 ⟨_,_,_,_,_,hs,V.new_slice hh hn,hh.alloc hB,Ext.alloc _ hh,hk⟩
/- make. -/
@[irreducible] def msS (n n':Int) (bytes:Nat) (k:Nat→Prop):Prop:=∃ j:Nat,n=(j:Int)∧n'=(j:Int)∧bytes * j≤281474976710656∧j < 9223372036854775808∧k j
theorem msS_mk {n n':Int} {bytes:Nat} {k:Nat→Prop} (j:Nat) (h1:n=(j:Int)) (h2:n'=(j:Int)) (h3:bytes * j≤281474976710656) (h4:j < 9223372036854775808) (hk:k j):msS n n' bytes k:=by
 unfold msS; exact ⟨j,h1,h2,h3,h4,hk⟩
def msP (le:LI) (n c:AV) (H:Hp) (k:AV→Hp→Prop):Prop :=
 match n,c with
 | .d (.i _ a),.d (.i _ b)=>bif le.zero.all AV.plain && Nat.beq le.zero.length le.size then msS a b le.bytes fun j=>aggK le.agg le.zero fun ze=>bif Nat.beq ze.cells.length le.size then reS (List.replicate j ze) j fun es' n'=>pushK H (.arr le.size es') fun p H'=>k (.sl p le.size 0 n') H' else False else False
 | _,_=>False
theorem aggK_cells {agg:Bool} {cs:List AV} {k:AV→Prop} {vs:Array Value} (h:aggK agg cs k) (hC:∀ (j:Nat) c,cs[j]?=some c→∃ v,vs[j]?=some v∧C X m w v c):∃ e,k e∧e.cells=cs:=by
 unfold aggK at h
 cases agg with
 | true =>
  rcases mkAg_ok h with ⟨ds,rfl,hk⟩ | hk
  ·exact ⟨_,hk,rfl⟩
  ·exact ⟨_,hk,rfl⟩
 | false =>
  simp only [cond_false] at h
  split at h
  ·rename_i c
   obtain ⟨v,_,hc⟩:=hC 0 c rfl
   exact ⟨c,h,hc.cells1⟩
  ·exact h.elim
theorem wrap_nat (j:Nat) (h:j < 9223372036854775808):IntKind.i64.wrap (j:Int)=j:=IntWalk.i64_in _ (by omega)
theorem ms_ok {t:TypeId} {li le:LI} {i ie:TypeInfo} {u ue:TypeDesc} {z ze:Value} (hl:LIs P t li i u z) (hsl:li.sl=true) (hle:LIs P li.elem le ie ue ze) (hh:HRel X m H w) {xn xc:AV} {vn vc:Value}
  (hn:V X m w vn xn) (hc:V X m w vc xc) {k:AV→Hp→Prop} (h:msP le xn xc H k):VOK P X m w (Instr.makeSlice t vn vc) k:=by
 have hu:=hl.slice hsl
 subst hu
 cases hn with
 | d _ x1 hr1 =>
  cases hr1 with
  | i k1 a =>
   cases hc with
   | d _ x2 hr2 =>
    cases hr2 with
    | i k2 b =>
     simp only [msP] at h
     cases hz:le.zero.all AV.plain && Nat.beq le.zero.length le.size with
     | false=>rw [hz] at h; exact h.elim
     | true =>
     rw [hz] at h
     simp only [Bool.and_eq_true] at hz
     have hzl:=Nat.eq_of_beq_eq_true hz.2
     simp only [cond_true] at h
     unfold msS at h
     obtain ⟨j,rfl,rfl,hb,hj,h⟩:=h
     have hzr:BRel X m w ze.cells (.var le.zero):=BRel.zero hle.zer hz.1
     obtain ⟨e,h,hec⟩:=aggK_cells h hzr
     cases hq:Nat.beq e.cells.length le.size with
     | false=>rw [hq] at h; exact h.elim
     | true =>
     rw [hq] at h
     have hq:=Nat.eq_of_beq_eq_true hq
     simp only [cond_true] at h
     simp only [reS_iff] at h
     have hsz:le.size=ie.size:=hle.size
     have hby:le.bytes=ie.bytes:=hle.bytes
     have hb1:¬ ((281474976710656:Int) < (ie.bytes:Int) * (j:Int)):=by
      rw [← hby]
      have h2:((le.bytes * j:Nat):Int)≤((281474976710656:Nat):Int):=Int.ofNat_le.2 hb
      rw [Int.natCast_mul] at h2
      omega
     have hzs:ze.cells.size=ie.size:=by
      have:=congrArg List.length hle.zer
      simp at this
      omega
     have hj0:¬ ((j:Int) < 0):=by omega
     have hrun:(Instr.makeSlice t (.int k1 (j:Int)) (.int k2 (j:Int))).run P w=.ok (.slice (some ⟨w.heap.size,0,none⟩) j j)
       (w.alloc (.cells ((Array.range (j * ie.size)).map ((if j * ie.size=0 then #[] else ze.cells)[· % (if j * ie.size=0 then #[] else ze.cells).size]!)) li.elem)):=by
      by_cases h0:j * ie.size=0
      ·simp [Instr.makeSlice,underlying,hl.und,asInt,asIntOf,typeInfo,hle.info,wrap_nat j hj,hb1,hj0,sizeOf,h0,newRow]
      ·simp [Instr.makeSlice,underlying,hl.und,asInt,asIntOf,typeInfo,hle.info,wrap_nat j hj,hb1,hj0,sizeOf,h0,newRow,zeroValue,hle.zero]
     refine VOK.newSlice hrun hh (by simp [hsz]) ⟨fun e' he'=>?_,fun a e' l c he' hc=>?_⟩ (pushK_ok h)
     ·rw [List.eq_of_mem_replicate he']; exact hq
     ·rw [List.getElem?_replicate] at he'
      split at he'
      ·rename_i haj
       simp at he'
       subst he'
       rw [hec] at hc
       have hll:l < le.size:=by rw [← hzl]; exact (List.getElem?_eq_some_iff.1 hc).1
       obtain ⟨v,hv,hC⟩:=hzr l c hc
       have hlt:a * le.size+l < j * ie.size:=by
        have h1:=Nat.mul_le_mul_right le.size (Nat.succ_le_of_lt haj)
        rw [Nat.succ_mul] at h1
        rw [← hsz]; omega
       have h0:j * ie.size≠0:=by omega
       refine ⟨v,?_,hC⟩
       rw [Array.getElem?_map,Array.getElem?_range,if_pos hlt]
       have hmod:(a * le.size+l) % ze.cells.size=l:=by rw [hzs,← hsz,Nat.mul_comm,Nat.mul_add_mod]; exact Nat.mod_eq_of_lt hll
       simp only [Option.map_some,h0,if_false,hmod]
       rw [Array.getElem!_eq_getD,Array.getD_eq_getD_getElem?,hv]
       rfl
      ·cases he'
    | _=>exact h.elim
   | _=>exact h.elim
  | _=>simp only [msP] at h
 | _=>simp only [msP] at h
end Go.Abs
