/- Code that may panic: regions, scopes, ends of bodies; contracts of functions that write to blocks handed over, or panic. No condition. -/
import Derived.Test.YthandbiapckgkaaZB10
import Derived.Scope
namespace Go.Abs
variable {P:Program} {X X':Nat→Prop} {m m':Mp} {H:Hp} {w w':World}
theorem NOKP.next {ro:Option Nat} {o:Oper} {a:Act} {k:AV→Hp→Prop} {pn:Value→Hp→Prop} {Q:Exit→Act→World→Prop} {next:Act→World→Prop} (hd:∀ c,o.op≠.defer c) (h:NOKP P X m w (execOp a.eval o) k pn)
  (hn:∀ v w' m' av H',V X m' w' v av→HRel X m' H' w'→Ext X m w m' w'→k av H'→next (a.put o.dst v) w') (hp:∀ pv w' m' H',HRel X m' H' w'→Ext X m w m' w'→pn pv H'→Q (.panic (pch pv)) a w'):o.wpIn (Fw ro) 0 P a w next Q:=by
 rcases h with h | ⟨f,args,hrun,hc⟩ | ⟨v,H',hrun,h1,h2⟩
 ·exact NOK.next hd h hn
 ·refine ⟨about_true o a w,?_⟩
  rw [Oper.semAt_eq _ _ _ hd,hrun]
  refine ⟨fun h=>by simp [Fw] at h,?_⟩
  have hcalls:Calls P f args w _:=callsIn_wide.1 hc
  have hin:CallsIn (Fw ro) 0 P f args w _:=⟨trivial,fun cs hr=>by
   obtain ⟨e,w',fr,r,s,x⟩:=hcalls cs
   refine ⟨e,w',fr,r,?_,x⟩
   cases e with
   | returned v=>exact (stepsIn_wide (P:=P)).2 s
   | panicked c=>exact (stepsIn_wide (P:=P)).2 s
   | outgrown=>exact s⟩
  refine hin.mono ?_
  rintro e w' (⟨v,m',r,H',rfl,h1,h2,h3,h4⟩ | ⟨pv,m',H',rfl,h2,h3,h4⟩)
  ·exact hn v w' m' r H' h1 h2 h3 h4
  ·exact hp pv w' m' H' h2 h3 h4
 ·refine ⟨about_true o a w,?_⟩
  rw [Oper.semAt_eq _ _ _ hd,hrun]
  exact hp v w m H' h1 (.refl _ _ _) h2
theorem Rel.stay [Inhabited DSt] {mb:Mp} {wb:World} {N:Nat} {T:Tp} {a:Act} (h:Rel X mb wb N m T H a w) {H':Hp} (hx:Ext X m w m' w') (hh:HRel X m' H' w'):Rel X mb wb N m' T H' a w':=h.put_none hx hh undef
/- Scopes without a jump. -/
/- Ends. -/
def EndPP (L:Lay) (fn:Func) (R:AV→Hp→Prop) (Pn:Value→Hp→Prop):Post:=fun e T H=>match e with
 | .normal | .ret=>resK L T H fn.results.toList fun vs=>R (retV vs) H
 | .panic ch=>∃ pv,ch=pch pv∧Pn pv H
 | _=>False
theorem calls_of_trP {cx:Cx} (hL:LayOK P cx.L) {f:FuncId} {fn:Func} {c:Code} (hf:P.funcs[f]?=some fn) (hb:fn.body=some c) {args:List AV} {R:AV→Hp→Prop} {Pn:Value→Hp→Prop}
  (hN:cx.N=fn.ntmps) (hro:cx.ro=none) (hF:cx.F=H.length) (hlen:args.length≤fn.ntmps) (h:Tr P cx c (argT 0 args) H (EndPP cx.L fn R Pn)) {vals:Array Value} (hs:vals.size=args.length) (hv:∀ (j:Nat) v c,vals[j]?=some v→args[j]?=some c→V X m w v c) (hh:HRel X m H w) :
  CallsIn Fence.wide 0 P f vals w fun e w'=>(∃ v m' r H',e=.returned v∧V X m' w' v r∧HRel X m' H' w'∧Ext X m w m' w'∧R r H')∨∃ pv m' H',e=.panicked (pch pv)∧HRel X m' H' w'∧Ext X m w m' w'∧Pn pv H':=by
 refine callsIn_of_wpX_marks hf hb trivial ?_
 unfold Tr at h
 have h1:=h X m w m _ w (by rw [hF]; exact hh.len) (Rel.start hs hv hh (by rw [hN]; exact hlen))
 rw [hro,Fw_none,hN] at h1
 refine wpX_mono h1 ?_
 rintro e a w' ⟨m',T,H',hr,hq⟩
 have fin:resK cx.L T H' fn.results.toList (fun vs=>R (retV vs) H')→LeavesInM Fence.wide 0 P fn a.tmps (fun e w'=>(∃ v m' r H',e=.returned v∧V X m' w' v r∧HRel X m' H' w'∧Ext X m w m' w'∧R r H')∨∃ pv m' H',e=.panicked (pch pv)∧HRel X m' H' w'∧Ext X m w m' w'∧Pn pv H') a.defers .returning w':=by
  intro hq
  obtain ⟨ms,e,nd,hd⟩:=hr.defers
  rw [e,dsv_nil,List.append_nil]
  refine leaves_marks (fun w2 hc hx2=>?_) ms nd (fun D hD=>⟨(hd D hD).1.1,(hd D hD).2⟩) hr.ext
  have hh2:HRel X m' H' w2:=hr.heap.calm hc
  obtain ⟨v,avs,g1,g2,g3⟩:=results_ok (fn:=fn) hL (fun t=>(hr.tmp t).calm hc) hh2 hq
  exact ⟨v,g1,.inl ⟨v,m',_,H',rfl,g2,hh2,hx2,g3⟩⟩
 cases e with
 | normal=>exact fin hq
 | ret=>exact fin hq
 | panic ch =>
  obtain ⟨pv,rfl,hpn⟩:=hq
  obtain ⟨ms,e,nd,hd⟩:=hr.defers
  show LeavesInM Fence.wide 0 P fn a.tmps _ a.defers (.panicking (pch pv)) w'
  rw [e,dsv_nil]
  refine leaves_marksD (by simp) (fun w2 hc hx2=>?_) ms nd (fun D hD=>⟨(hd D hD).1.1,(hd D hD).2⟩) hr.ext
  exact .inr ⟨pv,m',H',rfl,hr.heap.calm hc,hx2,hpn⟩
 | _=>exact hq.elim
@[irreducible] def MCP (P:Program) (f:FuncId) (args:List AV) (Bs:List Blk) (R:List D→List Blk→Prop) (Pn:Value→Prop):Prop :=
 ECallP P f args (Bs.map some) (fun r H'=>∃ rs Bs',r=retD rs∧Bs'.length=Bs.length∧H'.take Bs.length=Bs'.map some∧okBs Bs.length Bs'∧R rs Bs') fun pv _=>Pn pv
def killM:List Nat→Mp→Mp
 | κ::ks,m=>killM ks (m.set κ .dead)
 | [],m=>m
def killH:List Nat→Hp→Hp
 | κ::ks,H=>killH ks (H.set κ none)
 | [],H=>H
theorem killM_length:∀ {ks:List Nat} {m:Mp},(killM ks m).length=m.length
 | [],_=>rfl
 | κ::ks,m=>by rw [killM,killM_length,List.length_set]
theorem killH_length:∀ {ks:List Nat} {H:Hp},(killH ks H).length=H.length
 | [],_=>rfl
 | κ::ks,H=>by rw [killH,killH_length,List.length_set]
theorem killM_get:∀ {ks:List Nat} {m:Mp} {κ:Nat} {e:ME},(killM ks m)[κ]?=some e→e=.dead∨m[κ]?=some e
 | [],_,_,_,h=>.inr h
 | κ'::ks,m,κ,e,h=>by
  rcases killM_get (ks:=ks) h with h | h
  ·exact .inl h
  ·rw [List.getElem?_set] at h
   split at h
   ·split at h
    ·left; cases h; rfl
    ·cases h
   ·exact .inr h
theorem killM_mem {ks:List Nat} {m:Mp} {b:Nat} (h:ME.blk b ∈ killM ks m):ME.blk b ∈ m:=by
 obtain ⟨κ,hκ⟩:=get_of_mem h
 rcases killM_get hκ with h1 | h1
 ·cases h1
 ·exact mem_of_get h1
theorem killM_other:∀ {ks:List Nat} {m:Mp} {κ:Nat},κ ∉ ks→(killM ks m)[κ]?=m[κ]?
 | [],_,_,_=>rfl
 | κ'::ks,m,κ,h=>by
  rw [killM,killM_other (fun hm=>h (List.mem_cons_of_mem _ hm)),List.getElem?_set_ne (fun e=>h (by simp [e]))]
theorem killH_get:∀ {ks:List Nat} {H:Hp} {κ:Nat} {B:Blk},(killH ks H)[κ]?=some (some B)→κ ∉ ks∧H[κ]?=some (some B)
 | [],_,_,_,h=>⟨by simp,h⟩
 | κ'::ks,H,κ,B,h=>by
  obtain ⟨h1,h2⟩:=killH_get (ks:=ks) h
  rw [List.getElem?_set] at h2
  split at h2
  ·split at h2
   ·cases h2
   ·cases h2
  ·rename_i hne
   exact ⟨fun hm=>by
    rcases List.mem_cons.1 hm with e | hm
    ·exact hne e.symm
    ·exact h1 hm,h2⟩
theorem MCP.ecall {f:FuncId} {args:List AV} {Bs:List Blk} {R:List D→List Blk→Prop} {Pn:Value→Prop} (h:MCP P f args Bs R Pn) {args':List AV} (ρ:List Nat) (hn:ρ.Nodup) (ha:args'=renL ρ args) (hok:okL ρ.length args=true) (hH0:frM ρ.length ρ H ρ Bs) {Q:AV→Hp→Prop} {Qn:Value→Hp→Prop} (hq0:∀ rs Bs',R rs Bs'→Q (retD rs) (upM ρ ρ Bs' H)) (hp0:∀ pv,Pn pv→Qn pv (killH ρ H)):ECallP P f args' H Q Qn:=by
  subst ha
  have hH:=frM_fr hH0
  unfold MCP at h
  unfold ECallP at h ⊢
  refine ⟨h.1,fun X m vals w hs hv hh=>?_⟩
  obtain ⟨hlen,hblk⟩:=frH_get hH
  have hget:∀ i,i < ρ.length→∃ B,Bs[i]?=some B∧okB ρ.length B=true∧H[refK ρ i]?=some (some (renB ρ B)):=fun i hi=>hblk i _ (refK_lt hi)
  have hlt:∀ i,i < ρ.length→refK ρ i < m.length:=fun i hi=>by
    obtain ⟨B,_,_,h3⟩:=hget i hi
    have:=(List.getElem?_eq_some_iff.1 h3).1
    rw [hh.len]; exact this
  have hpk:∀ i,i < ρ.length→(pickM ρ m)[i]?=m[refK ρ i]?:=fun i hi=>by
    have h1:=hlt i hi
    simp only [pickM,List.getElem?_map,refK_lt hi,Option.map_some,List.getElem?_eq_getElem h1,Option.getD_some]
  have hmem:∀ b,ME.blk b ∈ pickM ρ m→ME.blk b ∈ m:=fun b hb=>by
    obtain ⟨κ,hκ⟩:=get_of_mem hb
    rcases pickM_get hκ with h1 | ⟨_,h1⟩
    · cases h1
    · exact mem_of_get h1
  let X':Nat→Prop:=fun b=>X b∨(ME.blk b ∈ m∧ME.blk b ∉ pickM ρ m)
  have hI:∀ b,Imm X m w b→Imm X' m w b:=fun b hb=>⟨hb.1,fun hx=>hx.elim hb.2.1 (fun hx=>hb.2.2 hx.1),hb.2.2⟩
  have hh0:HRel X' (pickM ρ m) (Bs.map some) w:=by
    refine ⟨by simp [pickM,hlen],fun κ B hB=>?_,fun κ κ' b h1 h2=>?_,fun κ b h1=>?_,fun b hb=>?_,⟨fun g cs hg=>let ⟨h1,h2,h3⟩:=hh.tab.get g cs hg; ⟨h1,fun hx=>hx.elim h2 (fun hx=>h3 hx.1),fun hm=>h3 (hmem g hm)⟩⟩⟩
    · have hκ:κ < Bs.length:=by have:=(List.getElem?_eq_some_iff.1 hB).1; simpa using this
      have hκ':κ < ρ.length:=by omega
      obtain ⟨B',e1,e2,e3⟩:=hget κ hκ'
      have:B'=B:=by
        rw [List.getElem?_map,e1] at hB
        simpa using hB
      subst this
      rcases hh.blk _ _ e3 with ⟨b,vs,el,g1,g2,g3⟩ | ⟨g1,q,g2⟩ | ⟨E,b,es,ck,k1,k2,k3,k4⟩
      rotate_left
      rotate_left
      · refine .inr (.inr ⟨E,b,es,ck,?_,by rw [hpk κ hκ']; exact k2,k3,k4.mono fun b hb=>⟨(hI b hb).pick,rfl⟩⟩)
        cases B' <;> simp [renB] at k1
        rw [k1]
      · exact .inl ⟨b,vs,el,by rw [hpk κ hκ']; exact g1,g2,BRel.ren e2 (g3.monoX hI)⟩
      · refine .inr (.inl ⟨by rw [hpk κ hκ']; exact g1,?_⟩)
        cases B' with
        | var cs=>simp [renB] at g2
        | mp E=>simp [renB] at g2
        | arr k es =>
          simp only [renB,Blk.arr.injEq] at g2
          cases es with
          | nil=>exact ⟨k,rfl⟩
          | cons e es=>simp [renL] at g2
    · rcases pickM_get h1 with h3 | ⟨l1,h3⟩
      · cases h3
      · rcases pickM_get h2 with h4 | ⟨l2,h4⟩
        · cases h4
        · have hinj:=hh.inj _ _ _ h3 h4
          simp only [refK,List.getD,List.getElem?_eq_getElem l1,List.getElem?_eq_getElem l2,Option.getD_some] at hinj
          exact (List.getElem_inj hn).1 hinj
    · have hm1:=mem_of_get h1
      rcases pickM_get h1 with h3 | ⟨_,h3⟩
      · cases h3
      · obtain ⟨l1,l2⟩:=hh.lt _ _ h3
        exact ⟨l1,fun hx=>hx.elim l2 (fun hx=>hx.2 hm1)⟩
    · rcases hb with hb | ⟨hb,_⟩
      · exact hh.old b hb
      · obtain ⟨κ,hκ⟩:=get_of_mem hb
        exact (hh.lt κ b hκ).1
  refine (h.2 X' (pickM ρ m) vals w (by rw [hs,renL_length]) (fun j v c hvj hc=>V.ren (okL_get hok j c hc) ((hv j v _ hvj (renL_get ρ args j c hc)).monoX hI)) hh0).mono ?_
  rintro e w' (⟨v,m1,r,H1,rfl,hV,hh1,hx1,rs,Bs',rfl,hl',htake,hokBs,hR⟩ | ⟨pv,m1,H1,rfl,hh1,hx1,hpn⟩)
  rotate_left
  · have hxm:Ext X m w (killM ρ m) w':=by
      refine ⟨fun b hb hm=>⟨(hx1.keep b hb (fun hp=>hm (hmem b hp))).1,fun hk=>hm (killM_mem hk)⟩,hx1.size,by rw [killM_length]; exact Nat.le_refl _,fun κ e _ he=>killM_get he,hx1.room,hx1.out⟩
    refine .inr ⟨pv,killM ρ m,killH ρ H,rfl,⟨by rw [killM_length,killH_length]; exact hh.len,fun κ B hB=>?_,fun κ κ' b h1 h2=>?_,fun κ b hκ=>?_,fun b hb=>Nat.lt_of_lt_of_le (hh.old b hb) hx1.size,hh.tab.ext hxm⟩,hxm,hp0 pv hpn⟩
    · obtain ⟨hκn,hB⟩:=killH_get hB
      have hsm:(killM ρ m)[κ]?=m[κ]?:=killM_other hκn
      have hnp:∀ b,m[κ]?=some (.blk b)→ME.blk b ∉ pickM ρ m:=fun b g1 hp=>by
        obtain ⟨κ',hκ'⟩:=get_of_mem hp
        rcases pickM_get hκ' with h3 | ⟨l1,h3⟩
        · cases h3
        · have:=hh.inj _ _ _ g1 h3
          subst this
          exact hκn (List.mem_of_getElem? (refK_lt l1))
      rcases hh.blk κ B hB with ⟨b,vs,el,g1,g2,g3⟩ | ⟨g1,g2⟩ | ⟨E,b,es,ck,q0,g1,q2,q3⟩
      · exact .inl ⟨b,vs,el,hsm.trans g1,(hx1.keep b (hh.lt κ b g1).1 (hnp b g1)).1.trans g2,g3.ext hxm⟩
      · exact .inr (.inl ⟨hsm.trans g1,g2⟩)
      · exact .inr (.inr ⟨E,b,es,ck,q0,hsm.trans g1,(hx1.keep b (hh.lt κ b g1).1 (hnp b g1)).1.trans q2,q3.ext hxm⟩)
    · rcases killM_get h1 with a1 | a1
      · cases a1
      · rcases killM_get h2 with a2 | a2
        · cases a2
        · exact hh.inj _ _ _ a1 a2
    · rcases killM_get hκ with a1 | a1
      · cases a1
      · obtain ⟨l1,l2⟩:=hh.lt κ b a1
        exact ⟨Nat.lt_of_lt_of_le l1 hx1.size,l2⟩
  ·
    have hq:Q (retD rs) (upH ρ ρ Bs' H):=by rw [← upM_eq hokBs]; exact hq0 rs Bs' hR
    have hokB:=okBs_all hokBs
    have hlive:∀ i,i < ρ.length→∃ B,Bs'[i]?=some B∧okB ρ.length B=true∧H1[i]?=some (some B):=fun i hi=>by
      have hi':i < Bs'.length:=by omega
      refine ⟨Bs'[i],by simp [hi'],?_,?_⟩
      · rw [hlen]; exact List.all_eq_true.1 hokB _ (List.getElem_mem hi')
      · have h2:=congrArg (·[i]?) htake
        simp only [List.getElem?_map,List.getElem?_eq_getElem hi',Option.map_some] at h2
        rw [List.getElem?_take,if_pos (by omega)] at h2
        exact h2
    have hsame:∀ i,i < ρ.length→m1[i]?=m[refK ρ i]?:=fun i hi=>by
      obtain ⟨B,_,_,h3⟩:=hlive i hi
      have:∀ e,m1[i]?=some e→e≠.dead→m1[i]?=m[refK ρ i]?:=fun e he hd=>by
        rcases hx1.same i e (by simp [pickM]; omega) he with h4 | h4
        · exact absurd h4 hd
        · rw [he,← h4,hpk i hi]
      rcases hh1.blk i B h3 with ⟨b,vs,el,g1,_,_⟩ | ⟨g1,_⟩ | ⟨_,b,_,_,_,g1,_⟩
      · exact this _ g1 (by simp)
      · exact this _ g1 (by simp)
      · exact this _ g1 (by simp)
    have hk:∀ κ,κ < ρ.length→m1[κ]?=m[refK ρ κ]?∧refK ρ κ < m.length:=fun κ hκ=>⟨hsame κ hκ,hlt κ hκ⟩
    have hI1:∀ b,Imm X' m1 w' b→Imm X m w' b:=fun b hb=>by
      refine ⟨hb.1,fun hx=>hb.2.1 (.inl hx),fun hm=>?_⟩
      by_cases hp:ME.blk b ∈ pickM ρ m
      · obtain ⟨κ,hκ⟩:=get_of_mem hp
        rcases pickM_get hκ with h3 | ⟨l1,h3⟩
        · cases h3
        · refine hb.2.2 (mem_of_get (κ:=κ) ?_)
          rw [hsame κ l1]; exact h3
      · exact hb.2.1 (.inr ⟨hm,hp⟩)
    have hxm:Ext X m w m w':=by
      refine ⟨fun b hb hm=>⟨(hx1.keep b hb (fun hp=>hm (hmem b hp))).1,hm⟩,hx1.size,Nat.le_refl _,fun κ e hκ he=>.inr he,hx1.room,hx1.out⟩
    refine .inl ⟨v,m,retD rs,upH ρ ρ Bs' H,rfl,?_,?_,hxm,hq⟩
    · have:=V.back (ρ:=ρ) hI1 hk (retD_ok (rs:=rs)) hV
      rwa [retD_ren] at this
    · refine ⟨by rw [upH_length]; exact hh.len,fun κ B hB=>?_,hh.inj,fun κ b hκ=>?_,fun b hb=>Nat.lt_of_lt_of_le (hh.old b hb) hx1.size,hh.tab.ext hxm⟩
      · by_cases hmem':κ ∈ ρ
        · obtain ⟨i,hi⟩:=List.getElem?_of_mem hmem'
          have hil:=(List.getElem?_eq_some_iff.1 hi).1
          obtain ⟨B0,g1,g2⟩:=upH_get (ρ:=ρ) (ks:=ρ) (Bs:=Bs') (H:=H) hn (by omega) (fun q hq=>by
            obtain ⟨j,hj⟩:=List.getElem?_of_mem hq
            have hjl:=(List.getElem?_eq_some_iff.1 hj).1
            have e:=refK_lt hjl
            rw [hj] at e; cases e
            rw [← hh.len]; exact hlt j hjl) hi
          rw [g2] at hB
          simp only [Option.some.injEq] at hB
          subst hB
          have eκ:refK ρ i=κ:=by have e:=refK_lt hil; rw [hi] at e; cases e; rfl
          obtain ⟨B1,k1,k2,k3⟩:=hlive i hil
          rw [g1] at k1; cases k1
          rcases hh1.blk i B0 k3 with ⟨b,vs,el,q1,q2,q3⟩ | ⟨q1,q,q2⟩ | ⟨E,b,es,ck,q0,q1,q2,q3⟩
          · exact .inl ⟨b,vs,el,by rw [← eκ,← hsame i hil]; exact q1,q2,BRel.back hI1 hk k2 q3⟩
          · refine .inr (.inl ⟨by rw [← eκ,← hsame i hil]; exact q1,?_⟩)
            subst q2
            exact ⟨q,rfl⟩
          · subst q0
            exact .inr (.inr ⟨E,b,es,ck,rfl,by rw [← eκ,← hsame i hil]; exact q1,q2,q3.mono fun b hb=>⟨hI1 b hb,rfl⟩⟩)
        · rw [upH_other hmem'] at hB
          rcases hh.blk κ B hB with ⟨b,vs,el,g1,g2,g3⟩ | g1 | ⟨E,b,es,ck,q0,g1,q2,q3⟩
          rotate_left
          rotate_left
          · refine .inr (.inr ⟨E,b,es,ck,q0,g1,?_,q3.ext hxm⟩)
            rw [(hx1.keep b (hh.lt κ b g1).1 (fun hp=>?_)).1]
            · exact q2
            · obtain ⟨κ',hκ'⟩:=get_of_mem hp
              rcases pickM_get hκ' with h3 | ⟨l1,h3⟩
              · cases h3
              · have:=hh.inj _ _ _ g1 h3
                subst this
                exact hmem' (List.mem_of_getElem? (refK_lt l1))
          · refine .inl ⟨b,vs,el,g1,?_,g3.ext hxm⟩
            rw [(hx1.keep b (hh.lt κ b g1).1 (fun hp=>?_)).1]
            · exact g2
            · obtain ⟨κ',hκ'⟩:=get_of_mem hp
              rcases pickM_get hκ' with h3 | ⟨l1,h3⟩
              · cases h3
              · have:=hh.inj _ _ _ g1 h3
                subst this
                exact hmem' (List.mem_of_getElem? (refK_lt l1))
          · exact .inr (.inl g1)
      · obtain ⟨l1,l2⟩:=hh.lt κ b hκ
        exact ⟨Nat.lt_of_lt_of_le l1 hx1.size,l2⟩
def EndMP (L:Lay) (fn:Func) (n:Nat) (R:List D→List Blk→Prop) (Pn:Value→Prop):Post:=fun e T H=>match e with
 | .normal | .ret=>resK L T H fn.results.toList fun vs=>mapK (frz 8) vs H fun ds H'=>∃ Bs',Bs'.length=n∧H'.take n=Bs'.map some∧okBs n Bs'∧R ds Bs'
 | .panic ch=>∃ pv,ch=pch pv∧Pn pv
 | _=>False
theorem MCP.of_tr {cx : Cx} (hL : LayOK P cx.L) {f : FuncId} {fn : Func} {c : Code} (hf : P.funcs[f]? = some fn) (hb : fn.body = some c) (hn : (fn.name == "runtime.NumGoroutine") = false) {args : List AV} {Bs : List Blk} {R : List D → List Blk → Prop} {Pn : Value → Prop}
  (hN:cx.N=fn.ntmps) (hro:cx.ro=none) (hF:cx.F=Bs.length) (hlen:args.length≤fn.ntmps) (h:Tr P cx c (argT 0 args) (Bs.map some) (EndMP cx.L fn Bs.length R Pn)):MCP P f args Bs R Pn:=by
 unfold MCP ECallP
 refine ⟨⟨fn,c,hf,hb,hn⟩,fun X m vals w hs hv hh=>?_⟩
 have h':Tr P cx c (argT 0 args) (Bs.map some) (EndPP cx.L fn (fun r H'=>∃ avs,r=retV avs∧mapK (frz 8) avs H' fun ds H2=>∃ Bs',Bs'.length=Bs.length∧H2.take Bs.length=Bs'.map some∧okBs Bs.length Bs'∧R ds Bs') fun pv _=>Pn pv):=by
  refine h.mono ?_
  rintro e T H hq
  cases e with
  | normal=>exact resK_mono _ (fun vs h=>⟨vs,rfl,h⟩) hq
  | ret=>exact resK_mono _ (fun vs h=>⟨vs,rfl,h⟩) hq
  | panic ch=>exact hq
  | _=>exact hq
 refine (calls_of_trP hL hf hb hN hro (by simpa using hF) hlen h' hs hv hh).mono ?_
 rintro e w' (⟨v,m',r,H',rfl,hV,hh',hx,avs,rfl,hk⟩ | ⟨pv,m',H',rfl,hh',hx,hpn⟩)
 ·obtain ⟨m2,H2,ds2,h1,h2,h3,Bs',h4,h5,h6,h7⟩:=retV_retD hV hk hh'
  exact .inl ⟨v,m2,_,H2,rfl,h3,h1,hx.trans h2,ds2,Bs',rfl,h4,h5,h6,h7⟩
 ·exact .inr ⟨pv,m',H',rfl,hh',hx,hpn⟩
end Go.Abs
