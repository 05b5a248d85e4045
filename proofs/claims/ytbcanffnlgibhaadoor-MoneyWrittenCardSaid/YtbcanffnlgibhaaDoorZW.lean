/- Plain laws about the models. No condition. -/
import Derived.Test.YtbcanffnlgibhaaDoorZV
import Derived.KernelRfl
import Derived.Sort.AssemblyPlain
import Derived.Lib.BitFns
namespace Go.Stop
open Go Go.Abs
set_option linter.unusedVariables false
set_option linter.unusedSimpArgs false
theorem w64_of {n : Int} (h1 : -9223372036854775808 ≤ n) (h2 : n ≤ 9223372036854775807) : w64 n = n := by
  unfold w64; simp only [IntKind.wrap, IntKind.bits, IntKind.signed]; simp; omega
theorem w64_nat {n : Nat} (h : n ≤ 9223372036854775807) : w64 (n : Int) = n := w64_of (by omega) (by omega)
theorem idx_nat {α : Type} (l : List α) (i : Nat) : idx l (i : Int) = l[i]? := by
  unfold idx; simp
theorem some_bind {α β : Type} (a : α) (f : α → Option β) : (some a).bind f = f a := rfl
theorem bif_dec {β : Type} (p : Prop) [Decidable p] (a b : β) : (bif decide p then a else b) = if p then a else b := by
  by_cases h : p <;> simp [h]
theorem bif_eq {β : Type} (x y : Int) (a b : β) : (bif x == y then a else b) = if x = y then a else b := by
  rw [Bool.cond_eq_ite]; simp only [beq_iff_eq]
theorem fuel_sub (n : Nat) : ((n : Int) - 0).toNat + 1 = n + 1 := by omega
theorem w64c {i : Int} {n : Nat} (h : i = n) (hn : n < 9223372036854775807) : w64 i = (n : Int) := by
  subst h; exact w64_nat (by omega)
theorem idx_at {α : Type} {l : List α} {i : Nat} {a : α} (h : l[i]? = some a) : idx l (i : Int) = some a := by rw [idx_nat]; exact h
theorem drop_cons {α : Type} {l r : List α} {i : Nat} {a : α} (h : l.drop i = a :: r) : l[i]? = some a ∧ l.drop (i + 1) = r ∧ i < l.length := by
  have h1 : l[i]? = some a := by have := congrArg (·[0]?) h; simpa using this
  refine ⟨h1, ?_, (List.getElem?_eq_some_iff.1 h1).1⟩
  have := congrArg List.tail h
  simpa using this
theorem sane30_true : M68 = some true := by decide +kernel
def mny (n : Int) : Prop := -1125899906842624 ≤ n ∧ n ≤ 1125899906842624
theorem moneyCheck_eq (n : Int) : M0 n = some (if n > 1125899906842624 then 300 else if n < -1125899906842624 then 300 else 0) := by
  unfold M0
  rw [bif_dec, bif_dec]
  split
  · rfl
  · split <;> rfl
theorem moneyCheck_ok {n : Int} (h : mny n) : M0 n = some 0 := by
  obtain ⟨h1, h2⟩ := h
  rw [moneyCheck_eq, if_neg (by omega), if_neg (by omega)]
theorem moneyCheck_bad {n : Int} (h : ¬mny n) : M0 n = some 300 := by
  unfold mny at h
  rw [moneyCheck_eq]
  by_cases h1 : n > 1125899906842624
  · rw [if_pos h1]
  · rw [if_neg h1, if_pos (by omega)]
def ba (l : List UInt8) : ByteArray := ⟨l.toArray⟩
theorem ba_size (l : List UInt8) : (ba l).size = l.length := by simp [ba, ByteArray.size]
theorem ba_toList (l : List UInt8) : (ba l).toList = l := by rw [ByteArray.toList_eq]; rfl
theorem ba_app (l r : List UInt8) : ba l ++ ba r = ba (l ++ r) := by
  apply ByteArray.ext
  simp [ba]
theorem ba_ext (l : List UInt8) (i j : Nat) : (ba l).extract i j = ba ((l.take j).drop i) := by
  apply ByteArray.ext
  simp [ba, List.extract_toArray, List.extract_eq_take_drop, List.drop_take]
theorem catS_ba {l r : List UInt8} (h : l.length + r.length ≤ 9223372036854775807) : catS (ba l) (ba r) = some (ba (l ++ r)) := by
  unfold catS
  rw [ba_size, ba_size, if_pos h, ba_app]
theorem slcS_ba {l : List UInt8} {i j : Nat} (h : i ≤ j) (h2 : j ≤ l.length) : slcS (ba l) (i : Int) (j : Int) = some (ba ((l.take j).drop i)) := by
  unfold slcS
  rw [ba_size, if_pos ⟨by omega, by omega, by omega⟩, Int.toNat_natCast, Int.toNat_natCast, ba_ext]
def two (u : Nat) : List UInt8 := [UInt8.ofNat (48 + u / 10 % 10), UInt8.ofNat (48 + u % 10)]
def textL (u : Nat) : List UInt8 := Lib.decDigits (u / 100) ++ (46 :: two u)
theorem dd_len (u : Nat) : 1 ≤ (Lib.decDigits u).length := by rw [Lib.decDigits_length]; exact Lib.nDigits_pos u
theorem dd_big {u : Nat} (h : ¬u < 100) : Lib.decDigits u = Lib.decDigits (u / 100) ++ two u := by
  rw [Lib.decDigits, dif_neg (by omega), Lib.decDigits, dif_neg (by omega), Nat.div_div_eq_div_mul]
  simp [two]
theorem dd_pad (u : Nat) : (if (Lib.decDigits u).length < 3 then List.replicate (3 - (Lib.decDigits u).length) 48 ++ Lib.decDigits u else Lib.decDigits u) = Lib.decDigits (u / 100) ++ two u := by
  by_cases h : u < 100
  · have e0 : u / 100 = 0 := by omega
    by_cases h1 : u < 10
    · rw [Lib.decDigits_one h1, e0, Lib.decDigits_one (by omega)]
      have e1 : u / 10 % 10 = 0 := by omega
      have e2 : u % 10 = u := by omega
      simp [two, e1, e2]
    · rw [Lib.decDigits_two h1 h, e0, Lib.decDigits_one (by omega)]
      have e1 : u / 10 % 10 = u / 10 := by omega
      simp [two, e1]
  · rw [dd_big h, if_neg]
    have := dd_len (u / 100)
    simp [two]; omega
theorem dd_len_le : ∀ (k u : Nat), u < 10 ^ (k + 1) → (Lib.decDigits u).length ≤ k + 1
  | 0, u, h => by rw [Lib.decDigits_one (by simpa using h)]; simp
  | k + 1, u, h => by
    by_cases h1 : u < 10
    · rw [Lib.decDigits_one h1]; simp
    · rw [Lib.decDigits, dif_neg h1]
      have := dd_len_le k (u / 10) (by rw [Nat.pow_succ] at h; omega)
      simp; omega
theorem dd_small (u : Nat) (h : u ≤ 1125899906842624) : (Lib.decDigits u).length ≤ 20 :=
  Nat.le_trans (dd_len_le 15 u (by omega)) (by omega)
theorem two_len (u : Nat) : (two u).length = 2 := rfl
def textOf (n : Int) : List UInt8 := if n < 0 then 45 :: textL n.natAbs else textL n.natAbs
theorem itoa_abs {n : Int} (hm : mny n) : M62 (maxG n (w64 (0 - n))) = some (ba (Lib.decDigits n.natAbs)) := by
  unfold mny at hm
  rw [w64_of (by omega) (by omega)]
  have e : maxG n (0 - n) = ((n.natAbs : Nat) : Int) := by unfold maxG; split <;> omega
  unfold M62
  rw [e, if_pos (by omega)]
  have h2 : Lib.itoa ((n.natAbs : Nat) : Int) = Lib.decDigits n.natAbs := by unfold Lib.itoa; rw [if_neg (by omega)]; simp
  rw [h2]; rfl
theorem text_eq {n : Int} (hm : mny n) : M64 n = some (ba (textOf n), 0) := by
  have hu : n.natAbs ≤ 1125899906842624 := by unfold mny at hm; omega
  have hl := dd_small _ hu
  have hl1 := dd_len n.natAbs
  have hp := dd_pad n.natAbs
  have hl2 := dd_small (n.natAbs / 100) (by omega)
  have hl3 := dd_len (n.natAbs / 100)
  have key : ∀ p : List UInt8, p = Lib.decDigits (n.natAbs / 100) ++ two n.natAbs → ((slcS (ba p) 0 (w64 ((((ba p).size : Nat) : Int) - 2))).bind fun s_13 => (catS s_13 ((ByteArray.mk #[46]))).bind fun s_14 => (slcS (ba p) (w64 ((((ba p).size : Nat) : Int) - 2)) ((((ba p).size : Nat) : Int))).bind fun s_15 => (catS s_14 s_15).bind fun s_16 => bif decide (n < 0) then (catS ((ByteArray.mk #[45])) s_16).bind fun s_18 => some (s_18, (0 : Int)) else some (s_16, 0)) = some (ba (textOf n), 0) := by
    intro p he
    have hpl : p.length = (Lib.decDigits (n.natAbs / 100)).length + 2 := by rw [he]; simp [two_len]
    have e1 : w64 ((((ba p).size : Nat) : Int) - 2) = ((p.length - 2 : Nat) : Int) := by rw [ba_size]; exact w64c (by omega) (by omega)
    have e2 : (p.take (p.length - 2)).drop 0 = Lib.decDigits (n.natAbs / 100) := by rw [List.drop_zero, hpl, he]; simp
    have e3 : (p.take p.length).drop (p.length - 2) = two n.natAbs := by rw [List.take_length, hpl, he]; simp
    rw [e1, show (0 : Int) = ((0 : Nat) : Int) from rfl, slcS_ba (by omega) (by omega), some_bind, e2]
    show (catS (ba _) (ba [46])).bind _ = _
    rw [catS_ba (by simp; omega), some_bind, ba_size, slcS_ba (by omega) (by omega), some_bind, e3, catS_ba (by simp [two_len]; omega), some_bind, bif_dec]
    have e4 : (Lib.decDigits (n.natAbs / 100) ++ [46]) ++ two n.natAbs = textL n.natAbs := by simp [textL]
    rw [e4]
    unfold textOf
    by_cases hneg : n < ((0 : Nat) : Int)
    · rw [if_pos hneg, if_pos (by simpa using hneg)]
      show (catS (ba [45]) (ba _)).bind _ = _
      rw [catS_ba (by simp [textL, two_len]; omega), some_bind]; rfl
    · rw [if_neg hneg, if_neg (by simpa using hneg)]
  unfold M64
  rw [moneyCheck_ok hm, some_bind, show ((0 : Int) != 0) = false from rfl, cond_false, itoa_abs hm, some_bind, bif_dec, ba_size]
  by_cases h3 : (((Lib.decDigits n.natAbs).length : Nat) : Int) < 3
  · rw [if_pos h3]
    rw [if_pos (by omega)] at hp
    have e1 : w64 (3 - (((Lib.decDigits n.natAbs).length : Nat) : Int)) = ((3 - (Lib.decDigits n.natAbs).length : Nat) : Int) := w64c (by omega) (by omega)
    have e2 : M63 (ByteArray.mk #[48]) ((3 - (Lib.decDigits n.natAbs).length : Nat) : Int) = some (ba (List.replicate (3 - (Lib.decDigits n.natAbs).length) 48)) := by
      generalize hc : 3 - (Lib.decDigits n.natAbs).length = c
      have hrep : ∀ c : Nat, Lib.repeatL [48] c = List.replicate c 48 := fun c => by
        induction c with
        | zero => rfl
        | succ c ih => rw [Lib.repeatL, ih]; rfl
      unfold M63
      rw [if_pos ⟨by omega, by omega, by show 1 * (c : Int).toNat ≤ _; omega⟩, Int.toNat_natCast]
      show some (ba (Lib.repeatL [48] c)) = _
      rw [hrep]
    rw [e1, e2, some_bind, catS_ba (by simp; omega), some_bind]
    exact key _ hp
  · rw [if_neg h3]
    rw [if_neg (by omega)] at hp
    have := key _ hp
    rw [ba_size] at this
    exact this
def scan {β : Type} (bad : Option β) (K : Int → Int → Option β) : List Int → Nat → Int → Int → Option β
  | [], _, n, p => K n p
  | x :: r, i, n, p => if x = 46 ∧ p < 0 then scan bad K r (i + 1) n i else if x < 48 ∨ x > 57 ∨ n > 2251799813685248 then bad else scan bad K r (i + 1) (w64 (w64 (10 * n) + w64 (IntKind.wrap .u8 (x - 48)))) p
theorem scan_run {l : List Int} {f : Nat → Int → Int → Int → Option Bool} {K : Int → Int → Option Bool} (hl : l.length ≤ 1000000)
    (h0 : ∀ n num p, f (n + 1) num p (l.length : Int) = K num p)
    (h1 : ∀ n num p (i : Nat) x, l[i]? = some x → f (n + 1) num p (i : Int) = bif (x == 46) && decide (p < 0) then f n num (i : Int) (w64 ((i : Int) + 1)) else bif decide (x < 48) || (decide (x > 57) || decide (num > 2251799813685248)) then some false else f n (w64 (w64 (10 * num) + w64 (IntKind.wrap .u8 (x - 48)))) p (w64 ((i : Int) + 1))) :
    f (l.length + 1) 0 (-1) 0 = scan (some false) K l 0 0 (-1) := by
  have key : ∀ r i n num p, l.drop i = r → r.length ≤ n → i ≤ l.length → f (n + 1) num p (i : Int) = scan (some false) K r i num p := by
    intro r
    induction r with
    | nil =>
      intro i n num p h _ hi
      have : i = l.length := by have := congrArg List.length h; simp at this; omega
      subst this
      exact h0 n num p
    | cons a r ih =>
      intro i n num p h hn hi
      obtain ⟨e1, e2, e3⟩ := drop_cons h
      obtain ⟨n, rfl⟩ : ∃ n', n = n' + 1 := ⟨n - 1, by simp at hn; omega⟩
      rw [h1 _ _ _ _ _ e1, w64c (i := (i : Int) + 1) (n := i + 1) (by omega) (by omega), scan]
      have c1 : ((a == 46) && decide (p < 0)) = decide (a = 46 ∧ p < 0) := by rw [Bool.eq_iff_iff]; simp
      have c2 : (decide (a < 48) || (decide (a > 57) || decide (num > 2251799813685248))) = decide (a < 48 ∨ a > 57 ∨ num > 2251799813685248) := by rw [Bool.eq_iff_iff]; simp
      rw [c1, c2, bif_dec, bif_dec, ih (i + 1) n num i e2 (by simpa using hn) e3, ih (i + 1) n _ p e2 (by simpa using hn) e3]
  exact key l 0 l.length 0 (-1) rfl (Nat.le_refl _) (Nat.zero_le _)
def byI (l : List UInt8) : List Int := l.map fun c => (c.toNat : Int)
theorem digit_nat {d : Nat} (h : d < 10) : (UInt8.ofNat (48 + d)).toNat = 48 + d := by
  rw [UInt8.toNat_ofNat']
  omega
theorem wrapU8_small {d : Nat} (h : d < 10) : IntKind.wrap .u8 ((48 + d : Nat) - 48 : Int) = (d : Int) := by
  simp only [IntKind.wrap, IntKind.bits, IntKind.signed]
  simp
  omega
section
variable {β : Type} {bad : Option β} {K : Int → Int → Option β}
theorem scan_digit {r : List Int} {i d n : Nat} {p : Int} (hd : d < 10) (hn : n ≤ 1125899906842624) : scan bad K (byI [UInt8.ofNat (48 + d)] ++ r) i (n : Int) p = scan bad K r (i + 1) ((n * 10 + d : Nat) : Int) p := by
  simp only [byI, List.map_cons, List.map_nil, List.singleton_append, digit_nat hd, scan]
  rw [if_neg (by omega), if_neg (by omega), wrapU8_small hd, w64_of (n := 10 * (n : Int)) (by omega) (by omega), w64_of (n := (d : Int)) (by omega) (by omega), w64_of (by omega) (by omega)]
  congr 1
  omega
theorem scan_dd : ∀ (m u : Nat), u ≤ m → u ≤ 1125899906842624 → ∀ (r : List Int) (i : Nat) (p : Int), scan bad K (byI (Lib.decDigits u) ++ r) i 0 p = scan bad K r (i + (Lib.decDigits u).length) (u : Int) p := by
  intro m
  induction m with
  | zero =>
    intro u hu _ r i p
    have : u = 0 := by omega
    subst this
    rw [Lib.decDigits_one (by omega)]
    exact scan_digit (n := 0) (d := 0) (by omega) (by omega)
  | succ m ih =>
    intro u hu hb r i p
    by_cases h : u < 10
    · rw [Lib.decDigits_one h]
      have := scan_digit (bad := bad) (K := K) (r := r) (i := i) (p := p) (n := 0) h (by omega)
      simpa using this
    · rw [Lib.decDigits, dif_neg h]
      have e : byI (Lib.decDigits (u / 10) ++ [UInt8.ofNat (48 + u % 10)]) ++ r = byI (Lib.decDigits (u / 10)) ++ (byI [UInt8.ofNat (48 + u % 10)] ++ r) := by simp [byI]
      rw [e, ih (u / 10) (by omega) (by omega), scan_digit (Nat.mod_lt _ (by omega)) (by omega), List.length_append, List.length_singleton, Nat.add_assoc]
      congr 1
      omega
theorem scan_text {u : Nat} (hu : u ≤ 1125899906842624) : scan bad K (byI (textL u)) 0 0 (-1) = K (u : Int) ((Lib.decDigits (u / 100)).length : Int) := by
  have e : byI (textL u) = byI (Lib.decDigits (u / 100)) ++ (46 :: (byI [UInt8.ofNat (48 + u / 10 % 10)] ++ (byI [UInt8.ofNat (48 + u % 10)] ++ []))) := by
    simp [byI, textL, two]
  rw [e, scan_dd (u / 100) (u / 100) (Nat.le_refl _) (by omega), scan, if_pos (by omega), scan_digit (Nat.mod_lt _ (by omega)) (by omega), scan_digit (Nat.mod_lt _ (by omega)) (by omega), scan]
  congr 1
  · omega
  · omega
end
theorem textL_inj {u v : Nat} (hu : u ≤ 1125899906842624) (hv : v ≤ 1125899906842624) (h : textL u = textL v) : u = v := by
  have h1 := scan_text (bad := none) (K := fun n _ => some n) hu
  have h2 := scan_text (bad := none) (K := fun n _ => some n) hv
  rw [h, h2] at h1
  have := Option.some.inj h1
  omega
theorem dd_range : ∀ (m u : Nat), u ≤ m → ∀ x, x ∈ Lib.decDigits u → 48 ≤ x.toNat := by
  intro m
  induction m with
  | zero =>
    intro u hu x hx
    have : u = 0 := by omega
    subst this
    rw [Lib.decDigits_one (by omega)] at hx
    simp at hx
    subst hx; decide
  | succ m ih =>
    intro u hu x hx
    by_cases h : u < 10
    · rw [Lib.decDigits_one h] at hx
      simp only [List.mem_singleton] at hx
      subst hx
      rw [digit_nat h]; omega
    · rw [Lib.decDigits, dif_neg h] at hx
      rcases List.mem_append.1 hx with hx | hx
      · exact ih (u / 10) (by omega) x hx
      · simp only [List.mem_singleton] at hx
        subst hx
        rw [digit_nat (Nat.mod_lt _ (by omega))]; omega
theorem dd_head : ∀ (m u : Nat), u ≤ m → 1 ≤ u → ∃ c r, Lib.decDigits u = c :: r ∧ c.toNat ≠ 48 := by
  intro m
  induction m with
  | zero => intro u hu h; omega
  | succ m ih =>
    intro u hu h1
    by_cases h : u < 10
    · refine ⟨_, _, Lib.decDigits_one h, ?_⟩
      rw [digit_nat h]; omega
    · obtain ⟨c, r, e, hc⟩ := ih (u / 10) (by omega) (by omega)
      refine ⟨c, r ++ [UInt8.ofNat (48 + u % 10)], ?_, hc⟩
      rw [Lib.decDigits, dif_neg h, e]; rfl
theorem textL_head (u : Nat) : ∃ c r, textL u = c :: r ∧ 48 ≤ c.toNat := by
  cases hd : Lib.decDigits (u / 100) with
  | nil => have := dd_len (u / 100); rw [hd] at this; simp at this
  | cons c r =>
    refine ⟨c, r ++ 46 :: two u, by rw [textL, hd]; rfl, dd_range (u / 100) (u / 100) (Nat.le_refl _) c (by rw [hd]; simp)⟩
theorem textOf_inj {a b : Int} (ha : mny a) (hb : mny b) (h : textOf a = textOf b) : a = b := by
  unfold mny at ha hb
  have i1 := textL_inj (u := a.natAbs) (v := b.natAbs) (by omega) (by omega)
  obtain ⟨c, r, e1, e2⟩ := textL_head a.natAbs
  obtain ⟨c', r', e1', e2'⟩ := textL_head b.natAbs
  unfold textOf at h
  by_cases h1 : a < 0
  · by_cases h2 : b < 0
    · rw [if_pos h1, if_pos h2] at h
      have := i1 (by simpa using h); omega
    · rw [if_pos h1, if_neg h2, e1'] at h
      have := (List.cons.inj h).1
      subst this
      have : (45 : UInt8).toNat = 45 := rfl
      omega
  · by_cases h2 : b < 0
    · rw [if_neg h1, if_pos h2, e1] at h
      have := (List.cons.inj h).1
      subst this
      have : (45 : UInt8).toNat = 45 := rfl
      omega
    · rw [if_neg h1, if_neg h2] at h
      have := i1 h; omega
theorem bytS_ba (l : List UInt8) : bytS (ba l) = byI l := rfl
theorem digits_ok {a : Int} (ha : mny a) {K : Int → Int → Option Bool} {f : Nat → Int → Int → Int → Option Bool}
    (hK : ∀ n p, K n p = (Option.bind (bif decide (p < 1) then some true else bif p != (w64 ((((ba (textL a.natAbs)).size : Nat) : Int) - 3)) then some true else bif decide (p > 1) then (Go.Abs.idxS (ba (textL a.natAbs)) 0).bind fun x_52 => some (x_52 == 48) else some false) fun v_47 => bif v_47 then some false else some (n == (maxG a (w64 (0 - a))))))
    (h0 : ∀ n num p, f (n + 1) num p ((bytS (ba (textL a.natAbs))).length : Int) = K num p)
    (h1 : ∀ n num p (i : Nat) x, (bytS (ba (textL a.natAbs)))[i]? = some x → f (n + 1) num p (i : Int) = bif (x == 46) && decide (p < 0) then f n num (i : Int) (w64 ((i : Int) + 1)) else bif decide (x < 48) || (decide (x > 57) || decide (num > 2251799813685248)) then some false else f n (w64 (w64 (10 * num) + w64 (IntKind.wrap .u8 (x - 48)))) p (w64 ((i : Int) + 1))) :
    f ((((((bytS (ba (textL a.natAbs)))).length : Int)) - 0 : Int).toNat + 1) 0 (-1) 0 = some true := by
  unfold mny at ha
  have hu : a.natAbs ≤ 1125899906842624 := by omega
  have hdl := dd_small (a.natAbs / 100) (by omega)
  have hd1 := dd_len (a.natAbs / 100)
  have htl : (textL a.natAbs).length = (Lib.decDigits (a.natAbs / 100)).length + 3 := by simp [textL, two_len]
  rw [fuel_sub, bytS_ba] at *
  rw [scan_run (by simp [byI]; omega) h0 h1, scan_text hu, hK, ba_size, htl]
  have ea : maxG a (w64 (0 - a)) = (a.natAbs : Int) := by
    rw [w64_of (by omega) (by omega)]
    unfold maxG; split <;> omega
  have ew : w64 (((((Lib.decDigits (a.natAbs / 100)).length + 3 : Nat)) : Int) - 3) = ((Lib.decDigits (a.natAbs / 100)).length : Int) := w64c (by omega) (by omega)
  rw [ea, ew, decide_eq_false (by omega), cond_false, bne_self_eq_false, cond_false, beq_self_eq_true, bif_dec]
  by_cases h2 : ((Lib.decDigits (a.natAbs / 100)).length : Int) > 1
  · have hu2 : 1 ≤ a.natAbs / 100 := by
      rcases Nat.eq_zero_or_pos (a.natAbs / 100) with h3 | h3
      · rw [h3, Lib.decDigits_one (by omega)] at h2; simp at h2
      · exact h3
    obtain ⟨c, r, e1, e2⟩ := dd_head _ _ (Nat.le_refl _) hu2
    have ei : Go.Abs.idxS (ba (textL a.natAbs)) 0 = some (c.toNat : Int) := by
      unfold Go.Abs.idxS
      rw [if_pos (Int.le_refl _)]
      show ((ba (textL a.natAbs))[0]?).map _ = _
      have : (ba (textL a.natAbs))[0]? = some c := by
        unfold textL
        rw [e1]
        rfl
      rw [this]; rfl
    rw [if_pos h2, ei, some_bind, some_bind, show ((c.toNat : Int) == 48) = false from by rw [beq_eq_false_iff_ne]; omega]
    rfl
  · rw [if_neg h2]; rfl
theorem MoneyWritten_true (y0 : Int) (y1 : Int) (w0 : wI y0) (w1 : wI y1) : M77 y0 y1 = some true := by
  have hbad : ∀ b, ¬mny b → M64 b = some (ByteArray.mk #[], 300) := fun b hm => by unfold M64; rw [moneyCheck_bad hm]; rfl
  have hne : ByteArray.mk #[] = ba [] := rfl
  unfold M77
  rw [sane30_true, some_bind, Bool.not_true, cond_false]
  by_cases h0 : mny y0
  · obtain ⟨t, e, ht⟩ : ∃ t e, M64 y1 = some (t, e) ∧ M0 y1 = some e ∧ (e = 0 → mny y1 ∧ t = ba (textOf y1)) := by
      by_cases h1 : mny y1
      · exact ⟨_, _, text_eq h1, moneyCheck_ok h1, fun _ => ⟨h1, rfl⟩⟩
      · exact ⟨_, _, hbad _ h1, moneyCheck_bad h1, fun h => by cases h⟩
    obtain ⟨ht, hc, hok⟩ := ht
    simp only [text_eq h0, ht, some_bind, moneyCheck_ok h0, hc, bne_self_eq_false, cond_false]
    have hneg : y0 < 0 → textOf y0 = 45 :: textL y0.natAbs := fun h => by unfold textOf; rw [if_pos h]
    have hpos : ¬y0 < 0 → textOf y0 = textL y0.natAbs := fun h => by unfold textOf; rw [if_neg h]
    have i0 : y0 < 0 → Go.Abs.idxS (ba (textOf y0)) 0 = some 45 := fun h => by
      rw [hneg h]; unfold Go.Abs.idxS; rw [if_pos (Int.le_refl _)]; rfl
    have hs : y0 < 0 → slcS (ba (textOf y0)) 1 (((ba (textOf y0)).size : Nat) : Int) = some (ba (textL y0.natAbs)) := fun h => by
      rw [hneg h, ba_size]
      have := slcS_ba (l := 45 :: textL y0.natAbs) (i := 1) (j := (45 :: textL y0.natAbs).length) (by simp) (Nat.le_refl _)
      rw [List.take_length] at this
      exact this
    have hemp : y0 < 0 → ((ba (textOf y0)).toList == (ByteArray.mk #[]).toList) = false := fun h => by
      rw [hneg h, hne, ba_toList, ba_toList]; rfl
    have eq1 : e = 0 → (((ba (textOf y0)).toList == t.toList) == (y0 == y1)) = true := fun h => by
      obtain ⟨h1, rfl⟩ := hok h
      rw [ba_toList, ba_toList, beq_iff_eq, Bool.eq_iff_iff, beq_iff_eq, beq_iff_eq]
      exact ⟨textOf_inj h0 h1, fun e => by rw [e]⟩
    have L1 : ∀ s, s = ba (textL y0.natAbs) → M69 s (M70 y0 s) ((((((bytS s)).length : Int)) - 0 : Int).toNat + 1) 0 (-1) 0 = some true := fun s hs => by
      subst hs
      refine digits_ok h0 (f := M69 _ _) (fun n p => rfl) (fun n num p => ?_) (fun n num p i x hx => ?_)
      · rw [M69, decide_eq_false (by omega), cond_false]; rfl
      · have := (List.getElem?_eq_some_iff.1 hx).1
        rw [M69, decide_eq_true (by omega), cond_true, idx_at hx, some_bind]
    have L3 : ∀ s, s = ba (textL y0.natAbs) → M71 s (M72 y0 s) ((((((bytS s)).length : Int)) - 0 : Int).toNat + 1) 0 (-1) 0 = some true := fun s hs => by
      subst hs
      refine digits_ok h0 (f := M71 _ _) (fun n p => rfl) (fun n num p => ?_) (fun n num p i x hx => ?_)
      · rw [M71, decide_eq_false (by omega), cond_false]; rfl
      · have := (List.getElem?_eq_some_iff.1 hx).1
        rw [M71, decide_eq_true (by omega), cond_true, idx_at hx, some_bind]
    have L5 : ∀ s, s = ba (textL y0.natAbs) → M73 s (M74 y0 s) ((((((bytS s)).length : Int)) - 0 : Int).toNat + 1) 0 (-1) 0 = some true := fun s hs => by
      subst hs
      refine digits_ok h0 (f := M73 _ _) (fun n p => rfl) (fun n num p => ?_) (fun n num p i x hx => ?_)
      · rw [M73, decide_eq_false (by omega), cond_false]; rfl
      · have := (List.getElem?_eq_some_iff.1 hx).1
        rw [M73, decide_eq_true (by omega), cond_true, idx_at hx, some_bind]
    have L7 : ∀ s, s = ba (textL y0.natAbs) → M75 s (M76 y0 s) ((((((bytS s)).length : Int)) - 0 : Int).toNat + 1) 0 (-1) 0 = some true := fun s hs => by
      subst hs
      refine digits_ok h0 (f := M75 _ _) (fun n p => rfl) (fun n num p => ?_) (fun n num p i x hx => ?_)
      · rw [M75, decide_eq_false (by omega), cond_false]; rfl
      · have := (List.getElem?_eq_some_iff.1 hx).1
        rw [M75, decide_eq_true (by omega), cond_true, idx_at hx, some_bind]
    have c45 : ((45 : Int) != 45) = false := rfl
    rw [bif_eq]
    by_cases he : e = 0
    · rw [if_pos he, eq1 he, Bool.not_true, cond_false, bif_dec]
      by_cases hn : y0 < 0
      · rw [if_pos hn, hemp hn, cond_false, i0 hn, some_bind, c45, cond_false, hs hn, some_bind]
        exact L1 _ rfl
      · rw [if_neg hn]
        exact L3 _ (by rw [hpos hn])
    · rw [if_neg he, bif_dec]
      by_cases hn : y0 < 0
      · rw [if_pos hn, hemp hn, cond_false, i0 hn, some_bind, c45, cond_false, hs hn, some_bind]
        exact L5 _ rfl
      · rw [if_neg hn]
        exact L7 _ (by rw [hpos hn])
  · obtain ⟨t, e, ht, hc⟩ : ∃ t e, M64 y1 = some (t, e) ∧ M0 y1 = some e := by
      by_cases h1 : mny y1
      · exact ⟨_, _, text_eq h1, moneyCheck_ok h1⟩
      · exact ⟨_, _, hbad _ h1, moneyCheck_bad h1⟩
    simp only [hbad _ h0, ht, some_bind, moneyCheck_bad h0, hc, bne_self_eq_false, cond_false, beq_self_eq_true]
    rfl
end Go.Stop
