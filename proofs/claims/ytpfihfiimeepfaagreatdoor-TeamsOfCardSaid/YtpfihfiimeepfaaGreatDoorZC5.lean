/- The region 'm[k] = append(m[k], v)' at a map of slices of the function's own, in whatever order its operations come up. No condition. -/
import Derived.Test.YtpfihfiimeepfaaGreatDoorZC4
import Derived.Test.YtpfihfiimeepfaaGreatDoorZL
namespace Go.Proofs.Tryz
open Go Go.Abs
def ops6 : Array Oper := #[{ dst := some 32, op := Op.move (Operand.tmp 5), type := 102, pos := "teams.go:176", after := #[], guard := none }, { dst := some 33, op := Op.fieldAddr 66 (Operand.tmp 7) 6, type := 0, pos := "teams.go:176", after := #[], guard := none }, { dst := some 34, op := Op.load 3 (Operand.tmp 33), type := 3, pos := "teams.go:176", after := #[{ on := 1, ground := Ground.data }], guard := none }, { dst := some 35, op := Op.move (Operand.tmp 5), type := 102, pos := "teams.go:176", after := #[], guard := none }, { dst := some 36, op := Op.fieldAddr 66 (Operand.tmp 7) 6, type := 0, pos := "teams.go:176", after := #[], guard := none }, { dst := some 37, op := Op.load 3 (Operand.tmp 36), type := 3, pos := "teams.go:176", after := #[{ on := 4, ground := Ground.data }], guard := none }, { dst := some 38, op := Op.lookup 102 (Operand.tmp 35) (Operand.tmp 37) false, type := 31, pos := "teams.go:176", after := #[{ on := 3, ground := Ground.data }, { on := 5, ground := Ground.data }], guard := none }, { dst := some 39, op := Op.fieldAddr 66 (Operand.tmp 7) 0, type := 0, pos := "teams.go:176", after := #[], guard := none }, { dst := some 40, op := Op.load 3 (Operand.tmp 39), type := 3, pos := "teams.go:176", after := #[{ on := 7, ground := Ground.data }], guard := none }, { dst := some 41, op := Op.buildSlice 31 1 #[(0, Operand.tmp 40)], type := 31, pos := "teams.go:176", after := #[{ on := 8, ground := Ground.data }], guard := none }, { dst := some 42, op := Op.call { callee := Callee.builtin Builtin.append, args := #[Operand.tmp 38, Operand.tmp 41], argTypes := #[31, 31] }, type := 31, pos := "teams.go:176", after := #[{ on := 6, ground := Ground.data }, { on := 9, ground := Ground.data }], guard := none }, { dst := none, op := Op.mapUpdate 102 (Operand.tmp 32) (Operand.tmp 34) (Operand.tmp 42), type := 0, pos := "teams.go:176", after := #[{ on := 0, ground := Ground.data }, { on := 2, ground := Ground.data }, { on := 10, ground := Ground.data }, { on := 10, ground := Ground.chain }, { on := 0, ground := Ground.phase }, { on := 1, ground := Ground.phase }, { on := 2, ground := Ground.phase }, { on := 3, ground := Ground.phase }, { on := 4, ground := Ground.phase }, { on := 5, ground := Ground.phase }, { on := 6, ground := Ground.phase }, { on := 7, ground := Ground.phase }, { on := 8, ground := Ground.phase }, { on := 9, ground := Ground.phase }, { on := 10, ground := Ground.phase }], guard := none }]
def av6 (b : Nat) (bib team : Int) (n : Nat) : Nat → AV
  | 0 => .mx b | 1 => .pt 0 6 | 2 => dI64 team | 3 => .mx b | 4 => .pt 0 6 | 5 => dI64 team | 6 => .sl 1 1 0 n | 7 => .pt 0 0 | 8 => dI64 bib | 9 => .d (.ls [.i .i64 bib]) | 10 => .sl 2 1 0 (n + 1) | _ => .un
def h6 (cs : List AV) (zs : List Int) (bib : Int) (L : Array Bool) : Hp :=
  if L.getD 6 false = true then (if L.getD 10 false = true then [some (.var cs), none, some (.arr 1 ((zs ++ [bib]).map dI64))] else [some (.var cs), some (.arr 1 (zs.map dI64))]) else [some (.var cs)]
theorem h6_head (cs : List AV) (zs : List Int) (bib : Int) (L : Array Bool) : ∃ r, h6 cs zs bib L = some (.var cs) :: r := by
  unfold h6
  split
  · split <;> exact ⟨_, rfl⟩
  · exact ⟨_, rfl⟩
theorem getD_same {L : Array Bool} {i j : Nat} (h : i ≠ j) : (L.setIfInBounds i true).getD j false = L.getD j false := getD_set_ne false h
theorem h6_same {cs : List AV} {zs : List Int} {bib : Int} {L : Array Bool} {i : Nat} (h1 : i ≠ 6) (h2 : i ≠ 10) : h6 cs zs bib (L.setIfInBounds i true) = h6 cs zs bib L := by
  unfold h6
  rw [getD_same h1, getD_same h2]
theorem know {X : Nat → Prop} {mb : Mp} {wb : World} {N : Nat} {m : Mp} {T : Tp} {H : Hp} {a : Act} {w : World} (h : Rel X mb wb N m T H a w) {d : Nat} {v : AV} (hv : V X m w (a.tmps.getD d undef) v) : Rel X mb wb N m ((d, v) :: T) H a w := by
  refine { h with tmp := fun t => ?_ }
  simp only [getT]
  cases hb : Nat.beq d t with
  | true =>
    obtain rfl := Nat.eq_of_beq_eq_true hb
    exact hv
  | false => exact h.tmp t
theorem forget {X : Nat → Prop} {mb : Mp} {wb : World} {N : Nat} {m : Mp} {T : Tp} {H : Hp} {a : Act} {w : World} {d : Nat} {v : AV} (h : Rel X mb wb N m ((d, v) :: T) H a w) (hu : getT T d = .un) : Rel X mb wb N m T H a w := by
  refine { h with tmp := fun t => ?_ }
  by_cases hb : d = t
  · subst hb; rw [hu]; exact .un _
  · have := h.tmp t
    simp only [getT] at this
    have hb' : Nat.beq d t = false := by
      cases hq : Nat.beq d t with
      | false => rfl
      | true => exact absurd (Nat.eq_of_beq_eq_true hq) hb
    rw [hb', cond_false] at this
    exact this
theorem put_getD {a : Act} {d t : Nat} {v : Value} (h : d ≠ t) : (a.put (some d) v).tmps.getD t undef = a.tmps.getD t undef := by
  simp only [Act.put]
  rw [Array.getD_eq_getD_getElem?, Array.getD_eq_getD_getElem?, Array.getElem?_setIfInBounds, if_neg h]
theorem put_getD_self {a : Act} {d : Nat} {v : Value} (h : d < a.tmps.size) : (a.put (some d) v).tmps.getD d undef = v := by
  simp only [Act.put]
  rw [Array.getD_eq_getD_getElem?, Array.getElem?_setIfInBounds, if_pos rfl, if_pos h]
  rfl
/-- What holds when those of L have come up. -/
structure Inv6 (X hid : Nat → Prop) (wb : World) (b : Nat) (T : Tp) (cs : List AV) (zs : List Int) (bib team : Int) (G G' : GL) (L : Array Bool) (m : Mp) (a : Act) (w : World) : Prop where
  rel : Rel (XH X hid) [] wb 71 m T (h6 cs zs bib L) a w
  df : a.defers = []
  grp : Grp X hid wb b G' w
  before : L.getD 6 false = false → G' = G
  after : ∀ o, mapPut G' team o = mapPut G team o
  val : ∀ j, j < 11 → L.getD j false = true → V (XH X hid) m w (a.tmps.getD (32 + j) undef) (av6 b bib team zs.length j)
section
variable {X hid : Nat → Prop} {wb : World} {b : Nat} {T : Tp} {cs : List AV} {zs : List Int} {bib team : Int} {G G' : GL} {L : Array Bool} {m : Mp} {a : Act} {w : World} {R : Exit → Act → World → Prop} {next : Act → World → Prop}
theorem step6 (h : Inv6 X hid wb b T cs zs bib team G G' L m a w) {i : Nat} {o : Oper} (hi : i < 11) (hi6 : i ≠ 6) (hT : getT T (32 + i) = .un) {Tx : Tp} (hx : Rel (XH X hid) [] wb 71 m Tx (h6 cs zs bib L) a w) (hod : o.dst = some (32 + i))
    (hs : stepP prog lay o.op Tx (h6 cs zs bib L) fun v H' => v = av6 b bib team zs.length i ∧ H' = h6 cs zs bib (L.setIfInBounds i true))
    (hn : ∀ m' a' w', Inv6 X hid wb b T cs zs bib team G G' (L.setIfInBounds i true) m' a' w' → next a' w') : o.wpIn (Fw none) 0 prog a w next R := by
  refine NOK.next (stepP_nodefer hs) (step_ok layOK hx o hs) ?_
  rintro v w' m' av H' h1 h2 h3 ⟨rfl, rfl⟩
  rw [hod]
  have hsz := h.rel.size
  refine hn m' _ _ ⟨forget (h.rel.put h3 h2 h1 (by omega)) hT, h.df, h.grp.kept h3.size fun c hc => ?_, fun hl => h.before (by rw [getD_same hi6] at hl; exact hl), h.after, fun j hj hl => ?_⟩
  · refine (h3.keep c (h.grp.old c hc).2.1 fun hm => ?_).1
    obtain ⟨κ, hκ⟩ := get_of_mem hm
    exact (h.rel.heap.lt κ c hκ).2 (.inr hc)
  · by_cases hij : i = j
    · subst hij
      rw [put_getD_self (by omega)]
      exact h1
    · rw [put_getD (by omega)]
      rw [getD_same hij] at hl
      exact (h.val j hj hl).ext h3
theorem step6_move (h : Inv6 X hid wb b T cs zs bib team G G' L m a w) (hT5 : getT T 5 = .mx b) {i : Nat} {o : Oper} (hi : i = 0 ∨ i = 3) (hT : getT T (32 + i) = .un) (hop : o.op = .move (.tmp 5)) (hod : o.dst = some (32 + i))
    (hn : ∀ m' a' w', Inv6 X hid wb b T cs zs bib team G G' (L.setIfInBounds i true) m' a' w' → next a' w') : o.wpIn (Fw none) 0 prog a w next R := by
  refine step6 h (i := i) (by omega) (by omega) hT (know h.rel (d := 5) (v := .mx b) (by have := h.rel.tmp 5; rwa [hT5] at this)) hod ?_ hn
  rw [hop, h6_same (by omega) (by omega)]
  conv => whnf
  rcases hi with rfl | rfl <;> exact ⟨rfl, rfl⟩
theorem step6_field (h : Inv6 X hid wb b T cs zs bib team G G' L m a w) (hT7 : getT T 7 = .pt 0 0) {i f : Nat} {o : Oper} (hi : (i = 1 ∧ f = 6) ∨ (i = 4 ∧ f = 6) ∨ (i = 7 ∧ f = 0)) (hT : getT T (32 + i) = .un) (hop : o.op = .fieldAddr 66 (.tmp 7) f) (hod : o.dst = some (32 + i))
    (hn : ∀ m' a' w', Inv6 X hid wb b T cs zs bib team G G' (L.setIfInBounds i true) m' a' w' → next a' w') : o.wpIn (Fw none) 0 prog a w next R := by
  refine step6 h (i := i) (by omega) (by omega) hT (know h.rel (d := 7) (v := .pt 0 0) (by have := h.rel.tmp 7; rwa [hT7] at this)) hod ?_ hn
  rw [hop, h6_same (by omega) (by omega)]
  obtain ⟨r, hr⟩ := h6_head cs zs bib L
  rw [hr]
  rcases hi with ⟨rfl, rfl⟩ | ⟨rfl, rfl⟩ | ⟨rfl, rfl⟩ <;> (conv => whnf) <;> exact ⟨rfl, rfl⟩
theorem step6_load {s1 s2 s3 s4 s5 s7 : Int} (hcs : cs = [dI64 bib, dI64 s1, dI64 s2, dI64 s3, dI64 s4, dI64 s5, dI64 team, dI64 s7]) (h : Inv6 X hid wb b T cs zs bib team G G' L m a w) {i : Nat} {o : Oper} (hi : i = 2 ∨ i = 5 ∨ i = 8) (hl : L.getD (i - 1) false = true) (hT : getT T (32 + i) = .un)
    (hop : o.op = .load 3 (.tmp (32 + (i - 1)))) (hod : o.dst = some (32 + i))
    (hn : ∀ m' a' w', Inv6 X hid wb b T cs zs bib team G G' (L.setIfInBounds i true) m' a' w' → next a' w') : o.wpIn (Fw none) 0 prog a w next R := by
  have hv := h.val (i - 1) (by omega) hl
  refine step6 h (i := i) (by omega) (by omega) hT (know h.rel hv) hod ?_ hn
  rw [hop, h6_same (by omega) (by omega)]
  obtain ⟨r, hr⟩ := h6_head cs zs bib L
  rw [hr]
  subst hcs
  rcases hi with rfl | rfl | rfl <;> (conv => whnf) <;> exact ⟨rfl, rfl⟩
theorem step6_lit (h : Inv6 X hid wb b T cs zs bib team G G' L m a w) {o : Oper} (hl : L.getD 8 false = true) (hT : getT T 41 = .un) (hop : o.op = .buildSlice 31 1 #[(0, .tmp 40)]) (hod : o.dst = some 41)
    (hn : ∀ m' a' w', Inv6 X hid wb b T cs zs bib team G G' (L.setIfInBounds 9 true) m' a' w' → next a' w') : o.wpIn (Fw none) 0 prog a w next R := by
  have hv := h.val 8 (by omega) hl
  refine step6 h (i := 9) (by omega) (by omega) hT (know h.rel hv) hod ?_ hn
  rw [hop, h6_same (by omega) (by omega)]
  generalize h6 cs zs bib L = H
  conv => whnf
  refine orB_r ?_
  conv => whnf
  exact ⟨rfl, rfl⟩
theorem step6_app (h : Inv6 X hid wb b T cs zs bib team G G' L m a w) {o : Oper} (hz : zs.length ≤ 1000000) (hl6 : L.getD 6 false = true) (hl9 : L.getD 9 false = true) (hl10 : L.getD 10 false = false) (hsz : L.size = 12) (hT : getT T 42 = .un)
    (hop : o.op = .call { callee := .builtin .append, args := #[.tmp 38, .tmp 41], argTypes := #[31, 31] }) (hod : o.dst = some 42)
    (hn : ∀ m' a' w', Inv6 X hid wb b T cs zs bib team G G' (L.setIfInBounds 10 true) m' a' w' → next a' w') : o.wpIn (Fw none) 0 prog a w next R := by
  have hv6 := h.val 6 (by omega) hl6
  have hv9 := h.val 9 (by omega) hl9
  refine step6 h (i := 10) (by omega) (by omega) hT (know (know h.rel hv9) hv6) hod ?_ hn
  have e1 : h6 cs zs bib L = [some (.var cs), some (.arr 1 (zs.map dI64))] := by unfold h6; rw [if_pos hl6, if_neg (by rw [hl10]; simp)]
  have e2 : h6 cs zs bib (L.setIfInBounds 10 true) = [some (.var cs), none, some (.arr 1 ((zs ++ [bib]).map dI64))] := by
    unfold h6
    rw [getD_same (by omega), if_pos hl6, if_pos]
    rw [Array.getD_eq_getD_getElem?, Array.getElem?_setIfInBounds, if_pos rfl, if_pos (by omega)]
    rfl
  rw [hop, e1, e2]
  conv => whnf
  refine frP_no ?_
  conv => whnf
  refine eqS_mk (by simp) ?_
  refine apS_mk (fun e he => ?_) (by simp; omega) (by simp; omega) ?_
  · have : e = .d (.i .i64 bib) := by simpa using he
    subst this; rfl
  · conv => whnf
    refine rS (es' := (zs ++ [bib]).map dI64) (n' := zs.length + 1) (by simp [dI64]) (by simp) ?_
    conv => whnf
    exact ⟨rfl, rfl⟩
theorem under102 : prog.underlying 102 = some (.map 3 31) := underlying102
theorem under3 : prog.underlying 3 = some (.int .i64) := underlying3
theorem zero31 (w : World) : (zeroValue 31).run prog w = .ok (.slice none 0 0) w := by kernel_rfl
theorem step6_take (h : Inv6 X hid wb b T cs zs bib team G G' L m a w) (hw : (Lit.int .i64 team).wf = true) (hget : mapGet G team (some []) = some zs) {o : Oper} (hl3 : L.getD 3 false = true) (hl5 : L.getD 5 false = true) (hl6 : L.getD 6 false = false) (hl10 : L.getD 10 false = false) (hsz : L.size = 12)
    (hT : getT T 38 = .un) (hop : o.op = .lookup 102 (.tmp 35) (.tmp 37) false) (hod : o.dst = some 38)
    (hn : ∀ hid' G'' m' a' w', Inv6 X hid' wb b T cs zs bib team G G'' (L.setIfInBounds 6 true) m' a' w' → next a' w') : o.wpIn (Fw none) 0 prog a w next R := by
  have hv3 := (h.val 3 (by omega) hl3).mxv
  have hv5 := (h.val 5 (by omega) hl5).int
  have e1 : h6 cs zs bib L = [some (.var cs)] := by unfold h6; rw [if_neg (by rw [hl6]; simp)]
  have e2 : h6 cs zs bib (L.setIfInBounds 6 true) = [some (.var cs), some (.arr 1 (zs.map dI64))] := by
    unfold h6
    rw [if_pos, getD_same (by omega), if_neg (by rw [hl10]; simp)]
    rw [Array.getD_eq_getD_getElem?, Array.getElem?_setIfInBounds, if_pos rfl, if_pos (by omega)]
    rfl
  have hG := h.before hl6
  subst hG
  have hr := h.rel
  rw [e1] at hr
  obtain ⟨v, hid', m', G'', h1, h2, h3, h4, h5, h6', h7, h8⟩ := look_take under102 under3 zero31 hr h.grp hw hget
  refine wpIn_value (w' := w) (v := v) (fun c hc => by rw [hop] at hc; cases hc) ?_ ?_
  · simp only [execOp, hop, Act.eval]
    show _ = _
    have e3 : a.tmps.getD 35 undef = .map (some b) := hv3
    have e5 : a.tmps.getD 37 undef = .int .i64 team := hv5
    simp [e3, e5, h1]
  · rw [hod]
    have hsz' := h2.size
    refine hn hid' G'' m' _ w ⟨?_, h.df, h4, fun hl => ?_, fun o => ?_, fun j hj hl => ?_⟩
    · rw [e2]
      have hp := h2.putV (d := 38) (show 38 < 71 by decide) h3
      exact forget hp hT
    · rw [Array.getD_eq_getD_getElem?, Array.getElem?_setIfInBounds, if_pos rfl, if_pos (by omega)] at hl
      cases hl
    · rcases h5 with ⟨rfl, _⟩ | rfl
      · rfl
      · exact mapPut_put _ _ _ _
    · by_cases hij : 6 = j
      · subst hij
        rw [put_getD_self (by omega)]
        exact h3
      · rw [put_getD (by omega)]
        rw [getD_same hij] at hl
        exact (h.val j hj hl).chg h6' h7 h8
theorem step6_put (h : Inv6 X hid wb b T cs zs bib team G G' L m a w) (hw : (Lit.int .i64 team).wf = true) {o : Oper} (hl : ∀ j, j < 11 → L.getD j false = true)
    (hop : o.op = .mapUpdate 102 (.tmp 32) (.tmp 34) (.tmp 42)) (hod : o.dst = none)
    (hn : ∀ hid' m' a' w', Rel (XH X hid') [] wb 71 m' T [some (.var cs), none, none] a' w' → a'.defers = [] → Grp X hid' wb b (mapPut G team (some (zs ++ [bib]))) w' → next a' w') : o.wpIn (Fw none) 0 prog a w next R := by
  have hv0 := (h.val 0 (by omega) (hl 0 (by omega))).mxv
  have hv2 := (h.val 2 (by omega) (hl 2 (by omega))).int
  have hv10 := h.val 10 (by omega) (hl 10 (by omega))
  have e1 : h6 cs zs bib L = [some (.var cs), none, some (.arr 1 ((zs ++ [bib]).map dI64))] := by unfold h6; rw [if_pos (hl 6 (by omega)), if_pos (hl 10 (by omega))]
  have hr := h.rel
  rw [e1] at hr
  have hv : V (XH X hid) m w (a.tmps.getD 42 undef) (.sl 2 1 0 (zs ++ [bib]).length) := by
    rw [List.length_append]; exact hv10
  obtain ⟨w', hid', m', g1, g2, g3⟩ := put_give under102 under3 hr h.grp hw (κ := 2) rfl (by simp) hv
  rw [h.after] at g3
  refine wpIn_skipv (w' := w') (fun c hc => by rw [hop] at hc; cases hc) ?_ ?_
  · simp only [execOp, hop, Act.eval]
    have e0 : a.tmps.getD 32 undef = .map (some b) := hv0
    have e2 : a.tmps.getD 34 undef = .int .i64 team := hv2
    rw [e0, e2]
    generalize a.tmps.getD 42 undef = u at g1
    simp [g1]
  · rw [hod]
    exact hn hid' m' _ w' g2 h.df g3
end
/- Those that may come up. -/
theorem after6 : ((List.range 12).all fun i => match ops6[i]? with
    | some o => o.after.all fun e => Nat.blt e.on i
    | none => false) = true := by kernel_rfl
theorem least_unlisted (L : Array Bool) : ∀ n, (∀ j, j < n → L.getD j false = true) ∨ ∃ i, i < n ∧ (∀ j, j < i → L.getD j false = true) ∧ L.getD i false = false
  | 0 => .inl fun j hj => by omega
  | n + 1 => by
    rcases least_unlisted L n with h | ⟨i, h1, h2, h3⟩
    · cases hn : L.getD n false with
      | false => exact .inr ⟨n, by omega, h, hn⟩
      | true =>
        refine .inl fun j hj => ?_
        rcases Nat.lt_or_ge j n with h' | h'
        · exact h j h'
        · have : j = n := by omega
          subst this; exact hn
    · exact .inr ⟨i, by omega, h2, h3⟩
theorem getD_size {L : Array Bool} {i : Nat} (h : i < L.size) : L.getD i true = L.getD i false := by
  rw [Array.getD_eq_getD_getElem?, Array.getD_eq_getD_getElem?]; simp [h]
theorem ready6 {L : Array Bool} (hsz : L.size = 12) (h : L.getD 11 false = false) : Region.ready .any ops6 L ≠ [] := by
  rcases least_unlisted L 12 with h0 | ⟨i, h1, h2, h3⟩
  · rw [h0 11 (by omega)] at h; cases h
  · have hi : i ∈ Region.ready .any ops6 L := by
      have ha := List.all_eq_true.1 after6 i (List.mem_range.2 h1)
      have hlt : i < ops6.size := h1
      rw [mem_ready]
      refine ⟨by rw [getD_size (by omega)]; exact h3, ops6[i], by simp [hlt], fun e he _ => ?_⟩
      rw [Array.getElem?_eq_getElem hlt] at ha
      simp only [Array.all_eq_true_iff_forall_mem] at ha
      exact h2 _ (by simpa [Nat.blt_eq] using ha e he)
    intro h0
    rw [h0] at hi; cases hi
def cnt6 (L : Array Bool) : Nat := (List.range 12).countP fun j => !(L.getD j false)
theorem countP_less {p q : Nat → Bool} {a : Nat} : ∀ {l : List Nat}, (∀ i ∈ l, p i = true → q i = true) → a ∈ l → p a = false → q a = true → l.countP p < l.countP q
  | [], _, h, _, _ => by cases h
  | x :: l, h, ha, h1, h2 => by
    have hle : l.countP p ≤ l.countP q := List.countP_mono_left fun i hi hp => h i (List.mem_cons_of_mem _ hi) hp
    rw [List.countP_cons, List.countP_cons]
    rcases List.mem_cons.1 ha with rfl | ha
    · rw [h1, h2]; simp; omega
    · have ih := countP_less (l := l) (fun i hi => h i (List.mem_cons_of_mem _ hi)) ha h1 h2
      have hx := h x List.mem_cons_self
      cases hp : p x with
      | false => cases q x <;> simp <;> omega
      | true => rw [hx hp]; simp; omega
theorem cnt6_set {L : Array Bool} {i : Nat} (hsz : L.size = 12) (hi : i < 12) (h : L.getD i false = false) : cnt6 (L.setIfInBounds i true) < cnt6 L := by
  refine countP_less (a := i) (fun j _ hj => ?_) (List.mem_range.2 hi) ?_ (by rw [h]; rfl)
  · by_cases hij : i = j
    · subst hij; rw [h]; rfl
    · rw [getD_same hij] at hj; exact hj
  · rw [Array.getD_eq_getD_getElem?, Array.getElem?_setIfInBounds, if_pos rfl, if_pos (by omega)]; rfl
theorem dep6 {L : Array Bool} {i : Nat} {o : Oper} (ho : ops6[i]? = some o) (haft : ∀ e ∈ o.after, Region.binds .any e = true → L.getD e.on false = true) (j : Nat)
    (hk : ((ops6[i]?).map fun o => o.after.any fun e => Nat.beq e.on j && Region.binds .any e) = some true) : L.getD j false = true := by
  rw [ho] at hk
  simp only [Option.map_some, Option.some.injEq, Array.any_eq_true'] at hk
  obtain ⟨e, he, hb⟩ := hk
  simp only [Bool.and_eq_true] at hb
  rw [← Nat.eq_of_beq_eq_true hb.1]
  exact haft e he hb.2
theorem any6 {X : Nat → Prop} {wb : World} {b : Nat} {T : Tp} {cs : List AV} {zs : List Int} {bib team : Int} {G : GL} {R : Exit → Act → World → Prop} {s1 s2 s3 s4 s5 s7 : Int} (hcs : cs = [dI64 bib, dI64 s1, dI64 s2, dI64 s3, dI64 s4, dI64 s5, dI64 team, dI64 s7])
    (hT5 : getT T 5 = .mx b) (hT7 : getT T 7 = .pt 0 0) (hTu : ∀ i, i < 11 → getT T (32 + i) = .un) (hw : (Lit.int .i64 team).wf = true) (hget : mapGet G team (some []) = some zs) (hz : zs.length ≤ 1000000)
    (hR : ∀ hid m a w, Rel (XH X hid) [] wb 71 m T [some (.var cs), none, none] a w → a.defers = [] → Grp X hid wb b (mapPut G team (some (zs ++ [bib]))) w → R .normal a w) :
    ∀ (fuel : Nat) (L : Array Bool) (hid : Nat → Prop) (G' : GL) (m : Mp) (a : Act) (w : World), L.size = 12 → cnt6 L ≤ fuel → L.getD 11 false = false → (L.getD 10 false = true → L.getD 6 false = true) → Inv6 X hid wb b T cs zs bib team G G' L m a w →
      wpAnyIn (Fw none) 0 prog .any ops6 R fuel L a w := by
  intro fuel
  induction fuel with
  | zero =>
    intro L hid G' m a w hsz hc h11 _ _
    have := cnt6_set hsz (by omega : 11 < 12) h11
    omega
  | succ fuel ih =>
    intro L hid G' m a w hsz hc h11 h106 h
    refine ⟨fun h0 => absurd h0 (ready6 hsz h11), fun i hi => ?_⟩
    obtain ⟨hu, o, ho, haft⟩ := mem_ready.1 hi
    have hi12 : i < 12 := (Array.getElem?_eq_some_iff.1 ho).1
    rw [getD_size (by omega)] at hu
    have hc' := cnt6_set hsz hi12 hu
    have hsz' : (L.setIfInBounds i true).size = 12 := by simpa using hsz
    unfold wpOpIn
    simp only [ho]
    have go : i ≠ 11 → i ≠ 6 → (i = 10 → L.getD 6 false = true) → ∀ m' a' w', Inv6 X hid wb b T cs zs bib team G G' (L.setIfInBounds i true) m' a' w' → wpAnyIn (Fw none) 0 prog .any ops6 R fuel (L.setIfInBounds i true) a' w' := by
      intro hne hne6 h10 m' a' w' hI
      refine ih _ hid G' m' a' w' hsz' (by omega) (by rw [getD_same hne]; exact h11) (fun hl => ?_) hI
      rw [getD_same hne6]
      by_cases h10' : i = 10
      · exact h10 h10'
      · rw [getD_same h10'] at hl; exact h106 hl
    match i, hi12 with
    | 0, _ => cases ho; rw [if_pos (show Region.wanted _ _ = true from rfl)]; exact step6_move h hT5 (i := 0) (.inl rfl) (hTu 0 (by omega)) rfl rfl (go (by omega) (by omega) (by omega))
    | 1, _ => cases ho; rw [if_pos (show Region.wanted _ _ = true from rfl)]; exact step6_field h hT7 (i := 1) (f := 6) (by omega) (hTu 1 (by omega)) rfl rfl (go (by omega) (by omega) (by omega))
    | 2, _ => have d1 := dep6 ho haft 1 (by kernel_rfl); cases ho; rw [if_pos (show Region.wanted _ _ = true from rfl)]; exact step6_load hcs h (i := 2) (by omega) d1 (hTu 2 (by omega)) rfl rfl (go (by omega) (by omega) (by omega))
    | 3, _ => cases ho; rw [if_pos (show Region.wanted _ _ = true from rfl)]; exact step6_move h hT5 (i := 3) (.inr rfl) (hTu 3 (by omega)) rfl rfl (go (by omega) (by omega) (by omega))
    | 4, _ => cases ho; rw [if_pos (show Region.wanted _ _ = true from rfl)]; exact step6_field h hT7 (i := 4) (f := 6) (by omega) (hTu 4 (by omega)) rfl rfl (go (by omega) (by omega) (by omega))
    | 5, _ => have d4 := dep6 ho haft 4 (by kernel_rfl); cases ho; rw [if_pos (show Region.wanted _ _ = true from rfl)]; exact step6_load hcs h (i := 5) (by omega) d4 (hTu 5 (by omega)) rfl rfl (go (by omega) (by omega) (by omega))
    | 6, _ =>
      have d3 := dep6 ho haft 3 (by kernel_rfl)
      have d5 := dep6 ho haft 5 (by kernel_rfl)
      cases ho; rw [if_pos (show Region.wanted _ _ = true from rfl)]
      have h10 : L.getD 10 false = false := by
        cases hx : L.getD 10 false with
        | false => rfl
        | true => rw [h106 hx] at hu; cases hu
      exact step6_take h hw hget d3 d5 hu h10 hsz (hTu 6 (by omega)) rfl rfl fun hid' G'' m' a' w' hI => ih _ hid' G'' m' a' w' hsz' (by omega) (by rw [getD_same (by omega)]; exact h11) (fun hl => by rw [getD_same (by omega), h10] at hl; cases hl) hI
    | 7, _ => cases ho; rw [if_pos (show Region.wanted _ _ = true from rfl)]; exact step6_field h hT7 (i := 7) (f := 0) (by omega) (hTu 7 (by omega)) rfl rfl (go (by omega) (by omega) (by omega))
    | 8, _ => have d7 := dep6 ho haft 7 (by kernel_rfl); cases ho; rw [if_pos (show Region.wanted _ _ = true from rfl)]; exact step6_load hcs h (i := 8) (by omega) d7 (hTu 8 (by omega)) rfl rfl (go (by omega) (by omega) (by omega))
    | 9, _ => have d8 := dep6 ho haft 8 (by kernel_rfl); cases ho; rw [if_pos (show Region.wanted _ _ = true from rfl)]; exact step6_lit h d8 (hTu 9 (by omega)) rfl rfl (go (by omega) (by omega) (by omega))
    | 10, _ =>
      have h6 := dep6 ho haft 6 (by kernel_rfl)
      have d9 := dep6 ho haft 9 (by kernel_rfl)
      cases ho; rw [if_pos (show Region.wanted _ _ = true from rfl)]
      exact step6_app h hz h6 d9 hu hsz (hTu 10 (by omega)) rfl rfl (go (by omega) (by omega) fun _ => h6)
    | 11, _ =>
      have hall : ∀ j, j < 11 → L.getD j false = true := by
        have hk : ((List.range 11).all fun j => ((ops6[11]?).map fun o => o.after.any fun e => Nat.beq e.on j && Region.binds .any e) == some true) = true := by kernel_rfl
        intro j hj
        exact dep6 ho haft j (by simpa using List.all_eq_true.1 hk j (List.mem_range.2 hj))
      cases ho; rw [if_pos (show Region.wanted _ _ = true from rfl)]
      refine step6_put h hw hall rfl rfl fun hid' m' a' w' h1 h2 h3 => ?_
      have hno : Region.ready .any ops6 (L.setIfInBounds 11 true) = [] := by
        refine List.eq_nil_iff_forall_not_mem.2 fun j hj => ?_
        obtain ⟨hju, oj, hoj, _⟩ := mem_ready.1 hj
        have hj12 : j < 12 := (Array.getElem?_eq_some_iff.1 hoj).1
        rw [getD_size (by omega)] at hju
        by_cases hj11 : 11 = j
        · subst hj11
          rw [Array.getD_eq_getD_getElem?, Array.getElem?_setIfInBounds, if_pos rfl, if_pos (by omega)] at hju
          cases hju
        · rw [getD_same hj11, hall j (by omega)] at hju
          cases hju
      cases fuel with
      | zero => exact ⟨hno, hR _ _ _ _ h1 h2 h3⟩
      | succ f => exact ⟨fun _ => hR _ _ _ _ h1 h2 h3, fun i hi => by rw [hno] at hi; cases hi⟩
/-- The region as a whole. -/
theorem region6 {cx : Cx} (hN : cx.N = 71) {b : Nat} {T : Tp} {zs : List Int} {bib team : Int} {G : GL} {Q : PostG} {s1 s2 s3 s4 s5 s7 : Int}
    (hT5 : getT T 5 = .mx b) (hT7 : getT T 7 = .pt 0 0) (hTu : ∀ i, i < 11 → getT T (32 + i) = .un) (hw : (Lit.int .i64 team).wf = true) (hget : mapGet G team (some []) = some zs) (hz : zs.length ≤ 1000000)
    (hQ : Q .normal T [some (.var [dI64 bib, dI64 s1, dI64 s2, dI64 s3, dI64 s4, dI64 s5, dI64 team, dI64 s7]), none, none] (mapPut G team (some (zs ++ [bib])))) :
    TrG prog cx b (.region 6 ops6 true) T [some (.var [dI64 bib, dI64 s1, dI64 s2, dI64 s3, dI64 s4, dI64 s5, dI64 team, dI64 s7])] G Q := by
  unfold TrG
  intro X wb a w hr
  obtain ⟨hid, m, hr, hdf, hg⟩ := hr
  rw [hN] at hr
  refine wpIn_region_any mixed ?_
  have hk : KeepW w { w with drawn := w.drawn + 1 } := ⟨Nat.le_refl _, fun _ _ => rfl, rfl, rfl, rfl⟩
  have hr' : Rel (XH X hid) [] wb 71 m T [some (.var [dI64 bib, dI64 s1, dI64 s2, dI64 s3, dI64 s4, dI64 s5, dI64 team, dI64 s7])] a { w with drawn := w.drawn + 1 } := by
    refine ⟨hr.ext.trans hk.ext, hr.size, fun t => (hr.tmp t).ext hk.ext, hk.hrel hr.heap, ?_⟩
    obtain ⟨ms, e, nd, hd⟩ := hr.defers
    exact ⟨ms, e, nd, fun D hD => ⟨defers_ext (X := X) hk.ext (hd D hD).1, (hd D hD).2⟩⟩
  refine any6 (X := X) (wb := wb) (G := G) (zs := zs) rfl hT5 hT7 hTu hw hget hz (fun hid m a w h1 h2 h3 => ⟨T, _, _, ⟨hid, m, by rw [hN]; exact h1, h2, h3⟩, hQ⟩) ops6.size _ hid G m a _ (by kernel_rfl) (by decide) rfl (fun h => by cases h) ⟨hr', hdf, hg.kept (Nat.le_refl _) fun _ _ => rfl, fun _ => rfl, fun _ => rfl, fun j hj hl => ?_⟩
  rw [Array.getD_eq_getD_getElem?, Array.getElem?_replicate] at hl
  split at hl <;> cases hl
end Go.Proofs.Tryz
