/- Code that owns a map of slices: statement by statement. No condition. -/
import Derived.Test.YtpfihfiimeepfaaGreatDoorZC1
namespace Go.Abs
variable {P : Program} {X : Nat → Prop} {m m' : Mp} {H : Hp} {w w' : World}
/-- The frame's state, with a map of slices in block b that reads as G. -/
def RelG (X : Nat → Prop) (wb : World) (N b : Nat) (T : Tp) (H : Hp) (G : GL) (a : Act) (w : World) : Prop :=
  ∃ (hid : Nat → Prop) (m : Mp), Rel (XH X hid) [] wb N m T H a w ∧ a.defers = [] ∧ Grp X hid wb b G w
abbrev PostG := Exit → Tp → Hp → GL → Prop
@[irreducible] def TrG (P : Program) (cx : Cx) (b : Nat) (c : Code) (T : Tp) (H : Hp) (G : GL) (Q : PostG) : Prop :=
  ∀ (X : Nat → Prop) (wb : World) (a : Act) (w : World), RelG X wb cx.N b T H G a w → c.wpIn (Fw none) 0 P (fun e a w => ∃ T H G, RelG X wb cx.N b T H G a w ∧ Q e T H G) a w
theorem RelG.weak {wb : World} {N b : Nat} {T T' : Tp} {H H' : Hp} {G : GL} {a : Act} (hw : Wk 0 T H T' H') (h : RelG X wb N b T H G a w) : RelG X wb N b T' H' G a w := by
  obtain ⟨hid, m, hr, hd, hg⟩ := h
  unfold Wk at hw
  obtain ⟨m', hr', _⟩ := hw _ _ _ _ _ _ _ rfl hr
  exact ⟨hid, m', hr', hd, hg⟩
variable {cx : Cx} {b : Nat} {T : Tp} {G : GL} {Q : PostG}
theorem TrG.mono {c : Code} {Q' : PostG} (h : TrG P cx b c T H G Q) (hq : ∀ e T H G, Q e T H G → Q' e T H G) : TrG P cx b c T H G Q' := by
  unfold TrG at h ⊢
  intro X wb a w hr
  refine wpIn_mono (h X wb a w hr) ?_
  rintro e a w ⟨T, H, G, h1, h2⟩
  exact ⟨T, H, G, h1, hq _ _ _ _ h2⟩
theorem TrG.weak {c : Code} {T' : Tp} {H' : Hp} (hw : Wk 0 T H T' H') (h : TrG P cx b c T' H' G Q) : TrG P cx b c T H G Q := by
  unfold TrG at h ⊢
  exact fun X wb a w hr => h X wb a w (hr.weak hw)
theorem TrG.seq {A B : Code} (h : TrG P cx b A T H G fun e T H G => match e with
    | .normal => TrG P cx b B T H G Q
    | e => Q e T H G) : TrG P cx b (.seq A B) T H G Q := by
  unfold TrG at h ⊢
  intro X wb a w hr
  refine wpIn_seq (wpIn_mono (h X wb a w hr) ?_)
  rintro e a w ⟨T, H, G, hr, hq⟩
  cases e with
  | normal => exact hq X wb a w hr
  | _ => exact ⟨T, H, G, hr, hq⟩
theorem TrG.skip (h : Q .normal T H G) : TrG P cx b .skip T H G Q := by
  unfold TrG; exact fun X wb a w hr => wpIn_skip ⟨T, H, G, hr, h⟩
theorem TrG.exit {id : Nat} (h : Q (.exit id) T H G) : TrG P cx b (.exit id) T H G Q := by
  unfold TrG; exact fun X wb a w hr => wpIn_exit ⟨T, H, G, hr, h⟩
theorem TrG.ret (h : Q .ret T H G) : TrG P cx b .ret T H G Q := by
  unfold TrG; exact fun X wb a w hr => wpIn_ret ⟨T, H, G, hr, h⟩
theorem TrG.cond {c : Operand} {x y : Code} (h : bK (opd T c) fun t => condS t (TrG P cx b x T H G Q) (TrG P cx b y T H G Q)) : TrG P cx b (.cond c x y) T H G Q := by
  unfold bK at h
  split at h
  · rename_i t hc
    replace h := condS_and h
    unfold TrG at h ⊢
    intro X wb a w hr
    obtain ⟨hid, m, hr0, hj⟩ := hr
    have ho := opd_ok hr0 c
    rw [hc] at ho
    exact wpIn_cond_split ho.bool (fun ht => h.1 ht X wb a w ⟨hid, m, hr0, hj⟩) (fun ht => h.2 ht X wb a w ⟨hid, m, hr0, hj⟩)
  · exact h.elim
def inBG (id : Nat) (Q : PostG) : PostG := fun e T H G => match e with
  | .exit id' => bif Nat.beq id' id then Q .normal T H G else Q (.exit id') T H G
  | e => Q e T H G
theorem TrG.block {id : Nat} {c : Code} (h : TrG P cx b c T H G (inBG id Q)) : TrG P cx b (.block id c) T H G Q := by
  unfold TrG at h ⊢
  intro X wb a w hr
  refine wpIn_block (wpIn_mono (h X wb a w hr) ?_)
  rintro e a w ⟨T, H, G, hr, hq⟩
  unfold inBG at hq
  cases e with
  | exit id' =>
    simp only [Exit.inBlock]
    by_cases hid : id' = id
    · subst hid
      simp only [Nat.beq_refl, cond_true] at hq
      rw [if_pos rfl]; exact ⟨T, H, G, hr, hq⟩
    · have hb : Nat.beq id' id = false := by
        cases hq : Nat.beq id' id with
        | false => rfl
        | true => exact absurd (Nat.eq_of_beq_eq_true hq) hid
      simp only [hb, cond_false] at hq
      rw [if_neg hid]; exact ⟨T, H, G, hr, hq⟩
  | _ => exact ⟨T, H, G, hr, hq⟩
/-- A loop: a state, and what becomes less. -/
theorem TrG.loop {σ : Type} {c : Code} (S : σ → Tp × Hp × GL) (μ : σ → Nat) (s0 : σ) (h0 : Wk 0 T H (S s0).1 (S s0).2.1) (hG : G = (S s0).2.2)
    (round : ∀ s, TrG P cx b c (S s).1 (S s).2.1 (S s).2.2 fun e T' H' G' => match e with
      | .normal => ∃ s', μ s' < μ s ∧ Wk 0 T' H' (S s').1 (S s').2.1 ∧ G' = (S s').2.2
      | e => Q e T' H' G') : TrG P cx b (.loop c) T H G Q := by
  subst hG
  refine TrG.weak h0 ?_
  unfold TrG
  intro X wb a w hr
  have key : ∀ (n : Nat) (s : σ) (a : Act) (w : World), μ s < n → RelG X wb cx.N b (S s).1 (S s).2.1 (S s).2.2 a w → Code.roundsIn (Fw none) 0 P c (fun e a w => ∃ T H G, RelG X wb cx.N b T H G a w ∧ Q e T H G) n a w := by
    intro n
    induction n with
    | zero => intro s a w h _; omega
    | succ n ih =>
      intro s a w hn hr
      have h1 := round s
      unfold TrG at h1
      rw [roundsIn_succ]
      refine wpIn_mono (h1 X wb a w hr) ?_
      rintro e a w ⟨T1, H1, G1, hr1, hq⟩
      cases e with
      | normal =>
        obtain ⟨s', h2, h3, h4⟩ := hq
        subst h4
        exact ih s' a w (by omega) (hr1.weak h3)
      | _ => exact ⟨T1, H1, G1, hr1, hq⟩
  exact wpIn_loop_rounds (μ s0 + 1) (key _ s0 a w (Nat.lt_succ_self _) hr)
/-- Operations one behind the other. -/
@[irreducible] def OpsG (P : Program) (cx : Cx) (b : Nat) (ops : Array Oper) (os : List Oper) (T : Tp) (H : Hp) (G : GL) (K : Tp → Hp → GL → Prop) : Prop :=
  ∀ (X : Nat → Prop) (wb : World) (i : Nat) (a : Act) (w : World), ops.toList.drop i = os → RelG X wb cx.N b T H G a w → ∀ R : Exit → Act → World → Prop, (∀ T H G a w, RelG X wb cx.N b T H G a w → K T H G → R .normal a w) →
    wpOpsIn (Fw none) 0 P ops R (List.range' i os.length) a w
theorem OpsG.nil {ops : Array Oper} {K : Tp → Hp → GL → Prop} (h : K T H G) : OpsG P cx b ops [] T H G K := by
  unfold OpsG
  intro X wb i a w _ hr R hR
  exact hR _ _ _ _ _ hr h
theorem TrG.region {id : Nat} {ops : Array Oper} (h : OpsG P cx b ops ops.toList T H G fun T H G => Q .normal T H G) : TrG P cx b (.region id ops false) T H G Q := by
  unfold TrG
  intro X wb a w hr
  refine wpIn_region ?_
  unfold OpsG at h
  have := h X wb 0 a w (by simp) hr (fun e a w => ∃ T H G, RelG X wb cx.N b T H G a w ∧ Q e T H G) (fun T H G a w h1 h2 => ⟨T, H, G, h1, h2⟩)
  rw [List.range_eq_range']
  simpa using this
/-- One operation, whatever it is: what it comes to. -/
theorem OpsG.one {ops : Array Oper} {o : Oper} {os : List Oper} {K : Tp → Hp → GL → Prop} (hg : o.guard = none)
    (h : ∀ (X : Nat → Prop) (wb : World) (a : Act) (w : World) (R : Exit → Act → World → Prop) (next : Act → World → Prop), RelG X wb cx.N b T H G a w →
      (∀ T' H' G' a' w', RelG X wb cx.N b T' H' G' a' w' → OpsG P cx b ops os T' H' G' K → next a' w') → o.wpIn (Fw none) 0 P a w next R) : OpsG P cx b ops (o :: os) T H G K := by
  unfold OpsG
  intro X wb i a w hd hr R hR
  have hoi : ops[i]? = some o := by
    have := congrArg (·[0]?) hd
    simpa using this
  have hdt : ops.toList.drop (i + 1) = os := by have := congrArg List.tail hd; simpa using this
  rw [List.length_cons, List.range'_succ]
  simp only [wpOpsIn, hoi]
  rw [if_pos (by simp [Region.wanted, hg])]
  refine h X wb a w _ _ hr ?_
  intro T' H' G' a' w' hr' hk
  unfold OpsG at hk
  exact hk X wb (i + 1) a' w' hdt hr' R hR
/-- An operation of the frame's that leaves the map alone. -/
theorem OpsG.step (hL : LayOK P cx.L) {ops : Array Oper} {o : Oper} {os : List Oper} {K : Tp → Hp → GL → Prop} (hg : o.guard = none)
    (h : stepP P cx.L o.op T H fun v H' => putK cx.N o.dst v T fun T' => OpsG P cx b ops os T' H' G K) : OpsG P cx b ops (o :: os) T H G K := by
  refine OpsG.one hg fun X wb a w R next hr hn => ?_
  obtain ⟨hid, m, hr, hdf, hg⟩ := hr
  refine NOK.next (stepP_nodefer h) (step_ok hL hr o h) ?_
  intro v w' m' av H' h1 h2 h3 h4
  obtain ⟨T'', hr'', h5⟩ := putK_ok h4 hr h3 h2 h1
  refine hn T'' H' G _ w' ⟨hid, m', hr'', by rw [put_defers]; exact hdf, hg.kept h3.size fun c hc => ?_⟩ h5
  refine (h3.keep c (hg.old c hc).2.1 fun hm => ?_).1
  obtain ⟨κ, hκ⟩ := get_of_mem hm
  exact (hr.heap.lt κ c hκ).2 (.inr hc)
theorem Rel.putV {mb : Mp} {wb : World} {N : Nat} {a : Act} {d : Tmp} {v : Value} {av : AV} (hr : Rel X mb wb N m T H a w) (hd : d < N) (hv : V X m w v av) : Rel X mb wb N m ((d, av) :: T) H (a.put (some d) v) w :=
  hr.put (.refl _ _ _) hr.heap hv hd
/-- What a look-up among the groups comes to: the slice is taken out. -/
theorem look_take {hid : Nat → Prop} {wb : World} {N : Nat} {a : Act} {t kt et : TypeId} (ht : P.underlying t = some (.map kt et)) (hk : P.underlying kt = some (.int .i64)) (hz : ∀ w, (zeroValue et).run P w = .ok (.slice none 0 0) w)
    (hr : Rel (XH X hid) [] wb N m T H a w) (hg : Grp X hid wb b G w) {k : Int} (hw : (Lit.int .i64 k).wf = true) {zs : List Int} (hget : mapGet G k (some []) = some zs) :
    ∃ v hid' m' G', (Instr.lookup t (.map (some b)) (.int .i64 k) false).run P w = .ok v w ∧ Rel (XH X hid') [] wb N m' T (H ++ [some (.arr 1 (zs.map dI64))]) a w ∧ V (XH X hid') m' w v (.sl H.length 1 0 zs.length) ∧ Grp X hid' wb b G' w ∧
      ((G' = G ∧ ∀ p ∈ G, p.1 ≠ k) ∨ G' = mapPut G k none) ∧
      (∀ b, Imm (XH X hid) m w b → Imm (XH X hid') m' w b) ∧ m.length ≤ m'.length ∧ ∀ (κ : Nat) e, κ < m.length → m'[κ]? = some e → e = .dead ∨ m[κ]? = some e := by
  obtain ⟨es, ck, g1, g2, _, g4⟩ := hg.find hk hw
  have hgo := Go.MapKept.run_getObj_map (P := P) g1
  rcases g4 with ⟨f1, _, f3⟩ | ⟨j, e, o, f1, f2, f3, f4⟩
  · have hz0 : zs = [] := by
      rw [(mapPut_new none f3).2] at hget
      simpa using hget.symm
    subst hz0
    obtain ⟨p1, p2⟩ := hr.heap.pushNil 1
    refine ⟨.slice none 0 0, hid, m ++ [.nil], G, by simp [Instr.lookup, underlying, ht, hgo, g2, f1, hz], ⟨hr.ext.trans p2, hr.size, fun s => (hr.tmp s).ext p2, p1, ?_⟩, ?_, hg, .inl ⟨rfl, f3⟩, ?_, by simp, ?_⟩
    · obtain ⟨ms, e, nd, hd⟩ := hr.defers
      exact ⟨ms, e, nd, fun D hD => ⟨defers_ext p2 (hd D hD).1, (hd D hD).2⟩⟩
    · exact .sl _ _ _ _ _ (by simp [hr.heap.len]) rfl (fun b hb => by rw [← hr.heap.len] at hb; simp at hb) (fun _ => ⟨rfl, rfl⟩)
    · exact fun b hb => (p2.imm hb).1
    · exact fun κ e hκ h => by rw [List.getElem?_append_left hκ] at h; exact .inr h
  · obtain ⟨m1, m2⟩ := mapPut_at none hg.apart f4
    rw [m2] at hget
    subst hget
    obtain ⟨es', ck', e', c, k1, k2, k3, k4, k5, k6⟩ := hg.take f4
    rw [g1] at k1
    simp only [Option.some.injEq, Obj.map.injEq] at k1
    obtain ⟨rfl, rfl⟩ := k1
    rw [f2] at k2
    obtain rfl : e = e' := by simpa using k2
    obtain ⟨r1, r2⟩ := hr.take k4 (hg.old c k4) k5
    refine ⟨e.val, _, _, _, by simp [Instr.lookup, underlying, ht, hgo, g2, f1], r1, r2, k6, .inr m1.symm, fun b' hb => ?_, by simp, fun κ e hκ h => by rw [List.getElem?_append_left hκ] at h; exact .inr h⟩
    refine ⟨hb.1, fun h => hb.2.1 (h.imp id And.left), fun h => ?_⟩
    rcases List.mem_append.1 h with h | h
    · exact hb.2.2 h
    · have : b' = c := by simpa using h
      subst this
      exact hb.2.1 (.inr k4)
theorem wpIn_value {o : Oper} {a : Act} {v : Value} {next : Act → World → Prop} {R : Exit → Act → World → Prop} (hd : ∀ c, o.op ≠ .defer c) (hrun : (execOp a.eval o).run P w = .ok (Next.value v) w') (hn : next (a.put o.dst v) w') : o.wpIn (Fw none) 0 P a w next R := by
  refine ⟨about_true o a w, ?_⟩
  rw [Oper.semAt_eq _ _ _ hd, hrun]
  exact hn
theorem wpIn_skipv {o : Oper} {a : Act} {next : Act → World → Prop} {R : Exit → Act → World → Prop} (hd : ∀ c, o.op ≠ .defer c) (hrun : (execOp a.eval o).run P w = .ok Next.skip w') (hn : next (a.put o.dst undef) w') : o.wpIn (Fw none) 0 P a w next R := by
  refine ⟨about_true o a w, ?_⟩
  rw [Oper.semAt_eq _ _ _ hd, hrun]
  exact hn
theorem V.mxv {v : Value} {b : Nat} (h : V X m w v (.mx b)) : v = .map (some b) := by cases h; rfl
/-- A slice is taken out of the map. -/
theorem OpsG.take {ops : Array Oper} {os : List Oper} {K : Tp → Hp → GL → Prop} {t kt et : TypeId} (ht : P.underlying t = some (.map kt et)) (hk : P.underlying kt = some (.int .i64)) (hz : ∀ w, (zeroValue et).run P w = .ok (.slice none 0 0) w)
    {o : Oper} {d : Tmp} {x y : Operand} {k : Int} {zs : List Int} (ho : o.op = .lookup t x y false) (hod : o.dst = some d) (hgd : o.guard = none) (hd : d < cx.N) (hx : opd T x = .mx b) (hy : opd T y = .d (.i .i64 k)) (hw : (Lit.int .i64 k).wf = true) (hget : mapGet G k none = some zs)
    (h : OpsG P cx b ops os ((d, .sl H.length 1 0 zs.length) :: T) (H ++ [some (.arr 1 (zs.map dI64))]) (mapPut G k none) K) :
    OpsG P cx b ops (o :: os) T H G K := by
  refine OpsG.one hgd fun X wb a w R next hr hn => ?_
  obtain ⟨hid, m, hr, hdf, hg⟩ := hr
  have hxv := opd_ok hr x
  rw [hx] at hxv
  have hyv := opd_ok hr y
  rw [hy] at hyv
  have hfound : ∃ p ∈ G, p.1 = k := by
    refine Classical.byContradiction fun hno => ?_
    have := (mapPut_new (G := G) (k := k) none fun p hp e => hno ⟨p, hp, e⟩).2 none
    rw [this] at hget; cases hget
  have hget2 : mapGet G k (some []) = some zs := by
    obtain ⟨p, hp, hpk⟩ := hfound
    obtain ⟨j, hj⟩ := List.getElem?_of_mem hp
    obtain ⟨_, e2⟩ := mapPut_at (G := G) (j := j) (k := k) (o := p.2) none hg.apart (by rw [hj, ← hpk])
    rw [e2] at hget ⊢
    exact hget
  obtain ⟨v, hid', m', G', h1, h2, h3, h4, h5, _⟩ := look_take ht hk hz hr hg hw hget2
  have hG' : G' = mapPut G k none := by
    rcases h5 with ⟨_, h5⟩ | h5
    · obtain ⟨p, hp, hpk⟩ := hfound
      exact absurd hpk (h5 p hp)
    · exact h5
  subst hG'
  refine wpIn_value (w' := w) (v := v) (fun c hc => by rw [ho] at hc; cases hc) ?_ ?_
  · simp only [execOp, ho, hxv.mxv, hyv.int]
    simp [h1]
  · rw [hod]
    exact hn _ _ _ _ _ ⟨hid', m', h2.putV hd h3, hdf, h4⟩ h
/-- A hidden block is written to. -/
theorem V.wchg {X' : Nat → Prop} (hI : ∀ b, Imm X m w b → Imm X' m w' b ∧ w'.heap[b]? = w.heap[b]?) (hm : ∀ (κ : Nat) b, m[κ]? = some (.blk b) → w'.heap[b]? = w.heap[b]?) {v : Value} {x : AV} (hv : V X m w v x) : V X' m w' v x := by
  induction hv with
  | d v x hr => exact .d v x (hr.mono hI)
  | ag vs cs hl h1 _ ih => exact .ag vs cs hl h1 ih
  | tp vs cs hl _ ih => exact .tp vs cs hl ih
  | fn f vs cs hl _ ih => exact .fn f vs cs hl ih
  | fm f vs cs hl _ ih => exact .fm f vs cs hl ih
  | sl v κ k off n hκ h1 hh h0 =>
    refine .sl v κ k off n hκ h1 (fun b hb => ?_) h0
    obtain ⟨cap, e, hn, vs, el, fz, hg, hr⟩ := hh b hb
    exact ⟨cap, e, hn, vs, el, fz, (hm κ b hb).trans hg, hr⟩
  | pe v κ k j off hκ h1 hh h0 => exact .pe v κ k j off hκ h1 hh h0
  | mr v κ hκ h1 hh h0 => exact .mr v κ hκ h1 hh h0
  | pt v κ off hκ h1 hh h0 => exact .pt v κ off hκ h1 hh h0
  | nsl => exact .nsl
  | yl l => exact .yl l
  | mx b => exact .mx b
  | cv v => exact .cv v
  | vw v κ k off n hκ hh h0 => exact .vw v κ k off n hκ hh h0
  | un v => exact .un v
theorem BRel.wchg {X' : Nat → Prop} (hI : ∀ b, Imm X m w b → Imm X' m w' b ∧ w'.heap[b]? = w.heap[b]?) (hm : ∀ (κ : Nat) b, m[κ]? = some (.blk b) → w'.heap[b]? = w.heap[b]?) {vs : Array Value} {B : Blk} (hb : BRel X m w vs B) : BRel X' m w' vs B := by
  cases B with
  | var cs => exact fun j c hc => let ⟨v, e, hv⟩ := hb j c hc; ⟨v, e, hv.1.wchg hI hm, hv.2⟩
  | arr k es => exact ⟨hb.1, fun j e l c h1 h2 => let ⟨v, e, hv⟩ := hb.2 j e l c h1 h2; ⟨v, e, hv.1.wchg hI hm, hv.2⟩⟩
  | mp E => exact hb
theorem Rel.hidden {hid : Nat → Prop} {wb : World} {N : Nat} {T : Tp} {a : Act} {b : Nat} {es es' : Array MapEntry} {ck ck' : Nat} (hr : Rel (XH X hid) [] wb N m T H a w) (hb : hid b) (hwb : wb.heap.size ≤ b) (hg : w.heap[b]? = some (.map es ck)) :
    Rel (XH X hid) [] wb N m T H a { w with heap := w.heap.setIfInBounds b (.map es' ck') } := by
  have hh := hr.heap
  have oth : ∀ x, x ≠ b → ({ w with heap := w.heap.setIfInBounds b (.map es' ck') } : World).heap[x]? = w.heap[x]? := fun x hx => by simp [Ne.symm hx]
  have hI : ∀ x, Imm (XH X hid) m w x → Imm (XH X hid) m { w with heap := w.heap.setIfInBounds b (.map es' ck') } x ∧ ({ w with heap := w.heap.setIfInBounds b (.map es' ck') } : World).heap[x]? = w.heap[x]? := by
    intro x hx
    have hne : x ≠ b := fun e => hx.2.1 (.inr (e ▸ hb))
    exact ⟨⟨by simpa using hx.1, hx.2⟩, oth x hne⟩
  have hm : ∀ (κ : Nat) x, m[κ]? = some (.blk x) → ({ w with heap := w.heap.setIfInBounds b (.map es' ck') } : World).heap[x]? = w.heap[x]? := fun κ x hκ => oth x fun e => (hh.lt κ x hκ).2 (.inr (e ▸ hb))
  refine ⟨⟨fun x hx hn => ?_, by simpa using hr.ext.size, hr.ext.len, hr.ext.same, fun x n hx => ?_, hr.ext.out⟩, hr.size, fun t => (hr.tmp t).wchg hI hm, ?_, ?_⟩
  · obtain ⟨h1, h2⟩ := hr.ext.keep x hx hn
    exact ⟨(oth x (by omega)).trans h1, h2⟩
  · obtain ⟨vs, el, fz, h1, h2⟩ := hr.ext.room x n hx
    have hne : x ≠ b := fun e => by rw [e, hg] at h1; cases h1
    exact ⟨vs, el, fz, (oth x hne).trans h1, h2⟩
  · refine ⟨hh.len, fun κ B hκ => ?_, hh.inj, fun κ x h => ⟨by simpa using (hh.lt κ x h).1, (hh.lt κ x h).2⟩, fun x hx => by simpa using hh.old x hx, ⟨fun g cs hgt => ?_⟩⟩
    · rcases hh.blk κ B hκ with ⟨x, us, el', h1, h2, h3⟩ | ⟨h1, h2⟩ | ⟨E, x, es, ck, e1, e2, e3, e4⟩
      · exact .inl ⟨x, us, el', h1, (hm κ x h1).trans h2, h3.wchg hI hm⟩
      · exact .inr (.inl ⟨h1, h2⟩)
      · exact .inr (.inr ⟨E, x, es, ck, e1, e2, (hm κ x e2).trans e3, e4.mono hI⟩)
    · obtain ⟨⟨el, fz, h1⟩, h2, h3⟩ := hh.tab.get g cs hgt
      have hne : g ≠ b := fun e => h2 (.inr (e ▸ hb))
      exact ⟨⟨el, fz, (oth g hne).trans h1⟩, h2, h3⟩
  · obtain ⟨ms, e, nd, hd⟩ := hr.defers
    refine ⟨ms, e, nd, fun D hD => ⟨⟨?_, (hd D hD).1.2⟩, (hd D hD).2⟩⟩
    have hne : D ≠ b := fun e => by have := (hd D hD).1.1; rw [e, hg] at this; cases this
    exact (oth D hne).trans (hd D hD).1.1
theorem mapPut_put {β : Type} : ∀ (G : List (Int × β)) (k : Int) (u v : β), mapPut (mapPut G k u) k v = mapPut G k v
  | [], k, u, v => by simp [mapPut]
  | p :: r, k, u, v => by
    rw [mapPut, mapPut]
    cases hd : decide (k = p.1) with
    | true => simp [mapPut]
    | false => simp only [cond_false]; rw [mapPut, hd, cond_false, mapPut_put r k u v]
/-- A slice of the frame's own is put into the map. -/
theorem put_give {hid : Nat → Prop} {wb : World} {N b : Nat} {T : Tp} {G : GL} {a : Act} {t kt et : TypeId} (ht : P.underlying t = some (.map kt et)) (hk : P.underlying kt = some (.int .i64)) (hr : Rel (XH X hid) [] wb N m T H a w) (hg : Grp X hid wb b G w)
    {k : Int} (hw : (Lit.int .i64 k).wf = true) {κ : Nat} {zs : List Int} (hκ : H[κ]? = some (some (.arr 1 (zs.map dI64)))) (hz : zs ≠ []) {v : Value} (hv : V (XH X hid) m w v (.sl κ 1 0 zs.length)) :
    ∃ w' hid' m', (Instr.mapUpdate t (.map (some b)) (.int .i64 k) v).run P w = .ok () w' ∧ Rel (XH X hid') [] wb N m' T (H.set κ none) a w' ∧ Grp X hid' wb b (mapPut G k (some zs)) w' := by
  obtain ⟨c, h1, h2, h3, h4⟩ := hr.give hκ hz hv
  obtain ⟨es, ck, es', ck', g1, g2, g3⟩ := hg.put ht hk hw h1 h2 h3
  exact ⟨_, _, _, g2, h4.hidden (.inl hg.hb) (hg.old b hg.hb).1 g1, g3⟩
theorem allocOld (w : World) (o : Obj) (x : Nat) (h : x < w.heap.size) : (w.alloc o).heap[x]? = w.heap[x]? := by
  unfold World.alloc
  show (w.heap.push o)[x]? = _
  rw [Array.getElem?_push_lt h]
  simp [h]
theorem allocNew (w : World) (o : Obj) : (w.alloc o).heap[w.heap.size]? = some o := by
  unfold World.alloc
  show (w.heap.push o)[w.heap.size]? = _
  simp
/-- A new map, hidden from the first. -/
theorem RelG.made {wb : World} {N : Nat} {T : Tp} {a : Act} (hr : Rel X [] wb N m T H a w) (hd : a.defers = []) : RelG X wb N w.heap.size T H [] a (w.alloc (.map #[] 0)) := by
  have hh := hr.heap
  have oth : ∀ x, x < w.heap.size → (w.alloc (.map #[] 0)).heap[x]? = w.heap[x]? := fun x hx => allocOld w _ x hx
  have hI : ∀ x, Imm X m w x → Imm (XH X fun c => c = w.heap.size) m (w.alloc (.map #[] 0)) x ∧ (w.alloc (.map #[] 0)).heap[x]? = w.heap[x]? := by
    intro x hx
    refine ⟨⟨by simp; have := hx.1; omega, fun h => ?_, hx.2.2⟩, oth x hx.1⟩
    rcases h with h | h
    · exact hx.2.1 h
    · have := hx.1; omega
  have hm : ∀ (κ : Nat) x, m[κ]? = some (.blk x) → (w.alloc (.map #[] 0)).heap[x]? = w.heap[x]? := fun κ x hκ => oth x (hh.lt κ x hκ).1
  refine ⟨fun c => c = w.heap.size, m, ⟨⟨fun x hx hn => ?_, by simp; have := hr.ext.size; omega, hr.ext.len, hr.ext.same, fun x n hx => ?_, hr.ext.out⟩, hr.size, fun t => (hr.tmp t).wchg hI hm, ?_, ?_⟩, hd, ?_⟩
  · obtain ⟨h1, h2⟩ := hr.ext.keep x hx hn
    have := hr.ext.size
    exact ⟨(oth x (by omega)).trans h1, h2⟩
  · obtain ⟨vs, el, fz, h1, h2⟩ := hr.ext.room x n hx
    exact ⟨vs, el, fz, (oth x (Array.getElem?_eq_some_iff.1 h1).1).trans h1, h2⟩
  · refine ⟨hh.len, fun κ B hκ => ?_, hh.inj, fun κ x h => ⟨by simp; have := (hh.lt κ x h).1; omega, fun hx => ?_⟩, fun x hx => ?_, ⟨fun g cs hgt => ?_⟩⟩
    · rcases hh.blk κ B hκ with ⟨x, us, el', h1, h2, h3⟩ | ⟨h1, h2⟩ | ⟨E, x, es, ck, e1, e2, e3, e4⟩
      · exact .inl ⟨x, us, el', h1, (hm κ x h1).trans h2, h3.wchg hI hm⟩
      · exact .inr (.inl ⟨h1, h2⟩)
      · exact .inr (.inr ⟨E, x, es, ck, e1, e2, (hm κ x e2).trans e3, e4.mono hI⟩)
    · have h1 := hh.lt κ x h
      rcases hx with hx | hx
      · exact h1.2 hx
      · omega
    · simp
      rcases hx with hx | hx
      · have := hh.old x hx; omega
      · omega
    · obtain ⟨⟨el, fz, h1⟩, h2, h3⟩ := hh.tab.get g cs hgt
      have hlt := (Array.getElem?_eq_some_iff.1 h1).1
      refine ⟨⟨el, fz, (oth g hlt).trans h1⟩, fun hx => ?_, h3⟩
      rcases hx with hx | hx
      · exact h2 hx
      · omega
  · exact ⟨[], by rw [hd]; rfl, List.nodup_nil, fun D hD => by cases hD⟩
  · refine ⟨rfl, fun c hc => ?_, fun p hp => absurd hp (by simp), #[], 0, fun _ => 0, allocNew _ _, Go.MapKept.stamped_empty 0, rfl, fun j k o hj => by simp at hj, fun j j' k k' zs zs' hj => by simp at hj⟩
    subst hc
    refine ⟨hr.ext.size, by simp, fun hx => ?_⟩
    have := hh.old _ hx; omega
/-- A function that makes such a map. -/
theorem PC.of_made {cx : Cx} (hL : LayOK P cx.L) {f : FuncId} {fn : Func} {id0 id1 : Nat} {ops0 : Array Oper} {o1 o2 : Oper} {B : Code} (hf : P.funcs[f]? = some fn) (hb : fn.body = some (.seq (.region id0 ops0 false) (.seq (.region id1 #[o1, o2] false) B))) (hnm : (fn.name == "runtime.NumGoroutine") = false)
    {ds : List D} {R : List D → Prop} {d1 d2 : Tmp} {t : TypeId} (h1 : o1.op = .makeMap t none) (h1d : o1.dst = some d1) (h1g : o1.guard = none) (h2 : o2.op = .assign (.tmp d1)) (h2d : o2.dst = some d2) (h2g : o2.guard = none) (hd1 : d1 < cx.N) (hd2 : d2 < cx.N)
    (hN : cx.N = fn.ntmps) (hro : cx.ro = none) (hlen : ds.length ≤ fn.ntmps)
    (h : RunOps P cx ops0.toList ops0.toList (argT 0 (ds.map .d)) [] fun T H => ∀ b, TrG P cx b B ((d2, .mx b) :: (d1, .mx b) :: T) H [] fun e T H _ => EndD cx.L fn R e T H) : PC P f ds R := by
  unfold PC
  refine ⟨⟨fn, _, hf, hb, hnm⟩, fun X vals w hs hv hX ht => ?_⟩
  have hh : HRel X [] [] w := ⟨rfl, fun κ B h => by simp at h, fun κ κ' b h => by simp at h, fun κ b h => by simp at h, hX, ht⟩
  have hst : Rel X [] w cx.N [] (argT 0 (ds.map AV.d)) [] { tmps := vals ++ Array.replicate (cx.N - vals.size) undef, defers := [] } w := by
    refine Rel.start (by simpa using hs) (fun j v c hvj hc => ?_) hh (by rw [hN]; simpa using hlen)
    simp only [List.getElem?_map, Option.map_eq_some_iff] at hc
    obtain ⟨c', hc', rfl⟩ := hc
    exact .d _ _ (hv j v c' hvj hc')
  refine callsIn_of_wp_marks hf hb trivial ?_
  have fin : ∀ (e : Exit) (a : Act) (w' : World), (∃ T H G b, RelG X w cx.N b T H G a w' ∧ EndD cx.L fn R e T H) → bodyPostM Fence.wide 0 P fn (fun e w' => ∃ v rs, e = .returned v ∧ V X [] w' v (retD rs) ∧ Ext X [] w [] w' ∧ R rs) e a w' := by
    rintro e a w' ⟨T, H, G, b, ⟨hid, m, hr, hd, _⟩, hq⟩
    have hr := hr.shut
    have main : resK cx.L T H fn.results.toList (fun vs => mapK (frz 8) vs H fun ds _ => R ds) → LeavesInM Fence.wide 0 P fn a.tmps (fun e w' => ∃ v rs, e = .returned v ∧ V X [] w' v (retD rs) ∧ Ext X [] w [] w' ∧ R rs) a.defers .returning w' := by
      intro hq
      rw [hd]
      refine leaves_marks (mb := []) (wb := w) (m := m) (X := X) (fun w2 hc hx2 => ?_) [] List.nodup_nil (fun D hD => by cases hD) hr.ext
      have hh2 : HRel X m H w2 := hr.heap.calm hc
      obtain ⟨v, avs, g1, g2, g3⟩ := results_ok (fn := fn) hL (fun t => (hr.tmp t).calm hc) hh2 hq
      obtain ⟨m2, H2, ds2, h1, h2, h3, h4⟩ := retV_retD g2 g3 hh2
      have hx3 := hx2.trans h2
      exact ⟨v, g1, v, ds2, rfl, vwider (fun b hb => ⟨hb.1, hb.2.1, by simp⟩) h3, ⟨fun b hb _ => ⟨(hx3.keep b hb (by simp)).1, by simp⟩, hx3.size, Nat.le_refl _, fun κ e hκ => by simp at hκ, hx3.room, hx3.out⟩, h4⟩
    cases e with
    | normal => exact main hq
    | ret => exact main hq
    | _ => exact hq.elim
  rw [hN] at hst
  refine wpIn_seq (wpIn_region ?_)
  generalize bodyPostM Fence.wide 0 P fn (fun e w' => ∃ v rs, e = .returned v ∧ V X [] w' v (retD rs) ∧ Ext X [] w [] w' ∧ R rs) = Qf at fin ⊢
  have hrun := RunOps_ok (cx := cx) (d0 := []) hL (mb := []) (wb := w) (X := X) ops0 (Q := Exit.then (Code.wpIn Fence.wide 0 P (.seq (.region id1 #[o1, o2] false) B) Qf) Qf) (fun m T H a w' hd hr hk => ?_) ops0.toList 0 _ _ _ _ w rfl (by simp) h (by rw [hN]; exact hst)
  · rw [hro, Fw_none] at hrun
    rw [List.range_eq_range']
    simpa using hrun
  · show Code.wpIn _ _ _ _ _ _ _
    refine wpIn_seq (wpIn_region ?_)
    show wpOpsIn _ _ _ _ _ [0, 1] _ _
    simp only [wpOpsIn, List.getElem?_toArray, List.getElem?_cons_zero, List.getElem?_cons_succ]
    rw [if_pos (by simp [Region.wanted, h1g]), ← Fw_none]
    have hg := RelG.made hr hd
    obtain ⟨hid, m', hr1, hd1', hgr⟩ := hg
    have p1 := hr1.putV (d := d1) hd1 (V.mx (X := XH X hid) (m := m') (w := w'.alloc (.map #[] 0)) w'.heap.size)
    refine wpIn_value (w' := w'.alloc (.map #[] 0)) (v := .map (some w'.heap.size)) (fun c hc => by rw [h1] at hc; cases hc) (by simp [execOp, h1, Go.RowKit.run_makeMap]) ?_
    rw [h1d, if_pos (by simp [Region.wanted, h2g])]
    have he : (a.put (some d1) (.map (some w'.heap.size))).eval (.tmp d1) = .map (some w'.heap.size) := by
      have := p1.tmp d1
      simp only [getT, Nat.beq_refl, cond_true] at this
      exact this.mxv
    refine wpIn_value (w' := w'.alloc (.map #[] 0)) (v := .map (some w'.heap.size)) (fun c hc => by rw [h2] at hc; cases hc) (by simp [execOp, h2, he]) ?_
    rw [h2d]
    have p2 := p1.putV (d := d2) hd2 (V.mx (X := XH X hid) (m := m') (w := w'.alloc (.map #[] 0)) w'.heap.size)
    have hB := hk w'.heap.size
    unfold TrG at hB
    have := hB X w _ _ ⟨hid, m', p2, hd1', hgr⟩
    rw [Fw_none] at this
    refine wpIn_mono this ?_
    rintro e a w' ⟨T, H, G, h1, h2⟩
    exact fin e a w' ⟨T, H, G, _, h1, h2⟩
/-- A region that leaves the map alone. -/
theorem TrG.rg (hL : LayOK P cx.L) (hro : cx.ro = none) {id : Nat} {ops : Array Oper} (h : RunOps P cx ops.toList ops.toList T H fun T H => Q .normal T H G) : TrG P cx b (.region id ops false) T H G Q := by
  unfold TrG
  intro X wb a w ⟨hid, m, hr, hd, hg⟩
  refine wpIn_region ?_
  have hst : Rel (XH X hid) m w cx.N m T H a w := ⟨.refl _ _ _, hr.size, hr.tmp, hr.heap, ⟨[], by rw [hd]; rfl, List.nodup_nil, fun D hD => by cases hD⟩⟩
  have hrun := RunOps_ok (cx := cx) (d0 := []) hL (mb := m) (wb := w) (X := XH X hid) ops (Q := fun e a w => ∃ T H G, RelG X wb cx.N b T H G a w ∧ Q e T H G) (fun m' T' H' a' w' hd' hr' hk => ?_) ops.toList 0 _ _ _ _ w hd (by simp) h hst
  · rw [hro] at hrun
    rw [List.range_eq_range']
    simpa using hrun
  · refine ⟨T', H', G, ⟨hid, m', ⟨?_, hr'.size, hr'.tmp, hr'.heap, ⟨[], by rw [hd']; rfl, List.nodup_nil, fun D hD => by cases hD⟩⟩, hd', hg.kept hr'.ext.size fun c hc => ?_⟩, hk⟩
    · exact hr.ext.trans hr'.ext
    · refine (hr'.ext.keep c (hg.old c hc).2.1 fun hm => ?_).1
      obtain ⟨κ, hκ⟩ := get_of_mem hm
      exact (hr.heap.lt κ c hκ).2 (.inr hc)
end Go.Abs
