/- Models of functions, by program (gen.py). No condition. -/
import Derived.Test.YtapjficbenpaeaaGreatZB7
import Derived.Lib.BitFns
namespace Go.Stop
open Go Go.Abs
set_option linter.unusedVariables false
structure TSegment where
  Mat : Int
  Epoch : Int
  Anchor : Int
  deriving DecidableEq, Inhabited
structure TClocks where
  Segments : List TSegment
  Far : List (List Int)
  deriving DecidableEq, Inhabited
structure TPair where
  A : Int
  B : Int
  deriving DecidableEq, Inhabited
structure TOutcome where
  Out : Bool
  Seg : Int
  Lo : Int
  Hi : Int
  deriving DecidableEq, Inhabited
structure TRunner where
  Bib : Int
  Keys : List Int
  Worlds : List (List TOutcome)
  deriving DecidableEq, Inhabited
structure TField where
  Clocks : TClocks
  Pairs : List TPair
  Runners : List TRunner
  deriving DecidableEq, Inhabited
structure TChoice where
  Outcome : Int
  X : Int
  deriving DecidableEq, Inhabited
structure THistory where
  World : Int
  Offsets : List Int
  Choices : List TChoice
  deriving DecidableEq, Inhabited
structure TSpan where
  Lo : Int
  Hi : Int
  deriving DecidableEq, Inhabited
structure TTotal where
  Bib : Int
  Sums : List TSpan
  Out : Bool
  deriving DecidableEq, Inhabited
structure Tclocks_place where
  mat : Int
  epoch : Int
  deriving DecidableEq, Inhabited
def eTSegment (x : TSegment) : D := .ag [(.i .i64 x.Mat), (.i .i64 x.Epoch), (.i .i64 x.Anchor)]
def eTClocks (x : TClocks) : D := .ag [(.ls (List.map eTSegment x.Segments)), (.ls (List.map (eL eI) x.Far))]
def eTPair (x : TPair) : D := .ag [(.i .i64 x.A), (.i .i64 x.B)]
def eTOutcome (x : TOutcome) : D := .ag [(.b x.Out), (.i .i64 x.Seg), (.i .i64 x.Lo), (.i .i64 x.Hi)]
def eTRunner (x : TRunner) : D := .ag [(.i .i64 x.Bib), (.ls (List.map eI x.Keys)), (.ls (List.map (eL eTOutcome) x.Worlds))]
def eTField (x : TField) : D := .ag [(.ls (List.map eTSegment x.Clocks.Segments)), (.ls (List.map (eL eI) x.Clocks.Far)), (.ls (List.map eTPair x.Pairs)), (.ls (List.map eTRunner x.Runners))]
def eTSpan (x : TSpan) : D := .ag [(.i .i64 x.Lo), (.i .i64 x.Hi)]
def eTTotal (x : TTotal) : D := .ag [(.i .i64 x.Bib), (.ls (List.map eTSpan x.Sums)), (.b x.Out)]
def eTclocks_place (x : Tclocks_place) : D := .ag [(.i .i64 x.mat), (.i .i64 x.epoch)]
def M0 (lo_1 : Int) (hi_2 : Int) : Option (TOutcome) :=
 some ({ Out := false, Seg := (-1), Lo := lo_1, Hi := hi_2 } : TOutcome)
def M1 (a_1 : List TOutcome) (b_2 : List TOutcome) : Option (TField) :=
 some ({ Clocks := ({ Segments := (([] : List TSegment)), Far := (([(([0] : List Int))] : List (List Int))) } : TClocks), Pairs := (([] : List TPair)), Runners := (([({ Bib := 1, Keys := (([] : List Int)), Worlds := (([a_1] : List (List TOutcome))) } : TRunner), ({ Bib := 2, Keys := (([] : List Int)), Worlds := (([b_2] : List (List TOutcome))) } : TRunner)] : List TRunner)) } : TField)
def M2 (n_1 : Int) : Option (Bool) :=
 bif decide (n_1 ≥ (-1099511627776)) then some (decide (n_1 ≤ 1099511627776)) else
 some false
def M3 (x_1 : Int) : Option (Bool) :=
 some (x_1 != x_1)
def M4 (x_1 : Int) (y_2 : Int) : Option (Int) :=
 (M3 x_1).bind fun r_4 =>
 (M3 y_2).bind fun r_6 =>
 bif r_4 then
  bif r_6 then some 0 else
  some (-1)
 else
 bif r_6 then some 1 else
 bif decide (x_1 < y_2) then some (-1) else
 bif decide (x_1 > y_2) then some 1 else
 some 0
def M5 (vals_1 : List Int) (k_7 : Unit → Option (Int)) : Nat → Int → Option (Int)
  | 0, _ => none
  | n_5 + 1, v_4 =>
    bif decide (v_4 < (((vals_1).length : Int))) then
     (idx vals_1 v_4).bind fun x_9 =>
     bif x_9 != 0 then some x_9 else
     (M5 vals_1 k_7 n_5) ((w64 (v_4 + 1)))
    else
    k_7 ()
def M6 (_ : Unit) : Option (Int) :=
 some 0
def M7 (vals_1 : List Int) : Option (Int) :=
 M5 vals_1 M6 (((((vals_1).length : Int)) - 0 : Int).toNat + 1) 0
def M8 (p_1 : Tclocks_place) (q_2 : Tclocks_place) : Option (Int) :=
 (M4 p_1.mat q_2.mat).bind fun r_4 =>
 (M4 p_1.epoch q_2.epoch).bind fun r_6 =>
 (M7 ((([r_4, r_6] : List Int)))).bind fun r_8 =>
 some r_8
def M9 (a_1 : TSegment) (b_2 : TSegment) : Option (Int) :=
 (M8 ({ mat := a_1.Mat, epoch := a_1.Epoch } : Tclocks_place) ({ mat := b_2.Mat, epoch := b_2.Epoch } : Tclocks_place)).bind fun r_4 =>
 some r_4
def M10 (w_1 : Int) : Option (Bool) :=
 bif decide (w_1 < (-2199023255552)) then some true else
 some (decide (w_1 > 2199023255552))
def M11 (s_1 : List Int) (k_7 : Unit → Option (Int)) : Nat → Int → Option (Int)
  | 0, _ => none
  | n_5 + 1, v_4 =>
    bif decide (v_4 < (((s_1).length : Int))) then
     (idx s_1 v_4).bind fun x_9 =>
     (M10 x_9).bind fun r_10 =>
     bif r_10 then some v_4 else
     (M11 s_1 k_7 n_5) ((w64 (v_4 + 1)))
    else
    k_7 ()
def M12 (_ : Unit) : Option (Int) :=
 some (-1)
def M13 (s_1 : List Int) : Option (Int) :=
 M11 s_1 M12 (((((s_1).length : Int)) - 0 : Int).toNat + 1) 0
def M14 (s_1 : List Int) : Option (Bool) :=
 (M13 s_1).bind fun r_3 =>
 some (decide (r_3 ≥ 0))
def M15 (k_1 : TClocks) (k_9 : Unit → Option (Int)) : Nat → Int → Option (Int)
  | 0, _ => none
  | n_7 + 1, v_6 =>
    bif decide (v_6 < (((k_1.Segments).length : Int))) then
     (idx k_1.Segments v_6).bind fun x_11 =>
     Option.bind (
      bif decide (x_11.Mat < 0) then some true else
      bif decide (x_11.Mat ≥ 40) then some true else
      bif decide (x_11.Epoch < 0) then some true else
      bif decide (x_11.Epoch > 255) then some true else
      (M2 x_11.Anchor).bind fun r_18 =>
      bif !r_18 then some true else
      bif decide (v_6 > 0) then
       (idx k_1.Segments (w64 (v_6 - 1))).bind fun x_22 =>
       (M9 x_22 x_11).bind fun r_23 =>
       some (decide (r_23 ≥ 0))
      else
      some false
     ) fun v_12 =>
     bif v_12 then some 160 else
     (M15 k_1 k_9 n_7) ((w64 (v_6 + 1)))
    else
    k_9 ()
def M16 (k_1 : TClocks) (k_30 : Unit → Option (Int)) : Nat → Int → Option (Int)
  | 0, _ => none
  | n_28 + 1, v_27 =>
    bif decide (v_27 < (((k_1.Far).length : Int))) then
     (idx k_1.Far v_27).bind fun x_32 =>
     bif (((x_32).length : Int)) != (w64 ((((k_1.Segments).length : Int)) + 1)) then some 160 else
     (idx x_32 v_27).bind fun x_34 =>
     bif x_34 != 0 then some 160 else
     (M14 x_32).bind fun r_36 =>
     bif r_36 then some 160 else
     (M16 k_1 k_30 n_28) ((w64 (v_27 + 1)))
    else
    k_30 ()
def M17 (k_1 : TClocks) (v_40 : Int) (x_52 : Int) (x_53 : List Int) (k_58 : Unit → Option (Int)) : Nat → Int → Option (Int)
  | 0, _ => none
  | n_56 + 1, v_55 =>
    bif decide (v_55 < (((x_53).length : Int))) then
     (idx x_53 v_55).bind fun x_60 =>
     (idx k_1.Far v_40).bind fun x_61 =>
     (idx x_61 v_55).bind fun x_62 =>
     bif decide (x_62 > (w64 (x_52 + x_60))) then some 160 else
     (M17 k_1 v_40 x_52 x_53 k_58 n_56) ((w64 (v_55 + 1)))
    else
    k_58 ()
def M18 (v_47 : Int) (nx_49 : Int → Option (Int)) (_ : Unit) : Option (Int) :=
 nx_49 ((w64 (v_47 + 1)))
def M19 (k_1 : TClocks) (v_40 : Int) (x_45 : List Int) (k_50 : Unit → Option (Int)) : Nat → Int → Option (Int)
  | 0, _ => none
  | n_48 + 1, v_47 =>
    bif decide (v_47 < (((x_45).length : Int))) then
     (idx x_45 v_47).bind fun x_52 =>
     (idx k_1.Far v_47).bind fun x_53 =>
     M17 k_1 v_40 x_52 x_53 (M18 v_47 (M19 k_1 v_40 x_45 k_50 n_48)) (((((x_53).length : Int)) - 0 : Int).toNat + 1) 0
    else
    k_50 ()
def M20 (v_40 : Int) (nx_42 : Int → Option (Int)) (_ : Unit) : Option (Int) :=
 nx_42 ((w64 (v_40 + 1)))
def M21 (k_1 : TClocks) (k_43 : Unit → Option (Int)) : Nat → Int → Option (Int)
  | 0, _ => none
  | n_41 + 1, v_40 =>
    bif decide (v_40 < (w64 ((((k_1.Segments).length : Int)) + 1))) then
     (idx k_1.Far v_40).bind fun x_45 =>
     M19 k_1 v_40 x_45 (M20 v_40 (M21 k_1 k_43 n_41)) (((((x_45).length : Int)) - 0 : Int).toNat + 1) 0
    else
    k_43 ()
def M22 (_ : Unit) : Option (Int) :=
 some 0
def M23 (k_1 : TClocks) (_ : Unit) : Option (Int) :=
 M21 k_1 M22 (((w64 ((((k_1.Segments).length : Int)) + 1)) - 0 : Int).toNat + 1) 0
def M24 (k_1 : TClocks) (_ : Unit) : Option (Int) :=
 M16 k_1 (M23 k_1) (((((k_1.Far).length : Int)) - 0 : Int).toNat + 1) 0
def M25 (k_1 : TClocks) : Option (Int) :=
 bif decide ((((k_1.Segments).length : Int)) > 511) then some 160 else
 bif (((k_1.Far).length : Int)) != (w64 ((((k_1.Segments).length : Int)) + 1)) then some 160 else
 M15 k_1 (M24 k_1) (((((k_1.Segments).length : Int)) - 0 : Int).toNat + 1) 0
def M26 (slices_1 : List (List TOutcome)) : Nat → Int → Int → Option (Int)
  | 0, _, _ => none
  | n_7 + 1, size_5, v_6 =>
    bif decide (v_6 < (((slices_1).length : Int))) then
     (idx slices_1 v_6).bind fun x_12 =>
     bif decide ((w64 (size_5 + (((x_12).length : Int)))) < 0) then none else
     (M26 slices_1 n_7) ((w64 (size_5 + (((x_12).length : Int))))) ((w64 (v_6 + 1)))
    else
    some size_5
def M27 (slices_1 : List (List TOutcome)) : Nat → Int → (List TOutcome) → Option (List TOutcome)
  | 0, _, _ => none
  | n_23 + 1, v_21, l_22 =>
    bif decide (v_21 < (((slices_1).length : Int))) then
     (idx slices_1 v_21).bind fun x_28 =>
     (app 32 l_22 x_28).bind fun l_29 =>
     (M27 slices_1 n_23) ((w64 (v_21 + 1))) l_29
    else
    some l_22
def M28 (slices_1 : List (List TOutcome)) : Nat → Int → (List TOutcome) → Option (List TOutcome)
  | 0, _, _ => none
  | n_35 + 1, v_33, l_34 =>
    bif decide (v_33 < (((slices_1).length : Int))) then
     (idx slices_1 v_33).bind fun x_40 =>
     (app 32 l_34 x_40).bind fun l_41 =>
     (M28 slices_1 n_35) ((w64 (v_33 + 1))) l_41
    else
    some l_34
def M29 (slices_1 : List (List TOutcome)) : Option (List TOutcome) :=
 (M26 slices_1 (((((slices_1).length : Int)) - 0 : Int).toNat + 1) 0 0).bind fun size_8 =>
 bif decide (size_8 < 0) then none else
 bif decide ((w64 (size_8 - 0)) > 0) then
  (mkZ 32 (w64 (size_8 - 0))).bind fun n_17 =>
  (slcTo (List.replicate n_17 ({ Out := false, Seg := 0, Lo := 0, Hi := 0 } : TOutcome)) 0).bind fun l_18 =>
  (M27 slices_1 (((((slices_1).length : Int)) - 0 : Int).toNat + 1) 0 l_18).bind fun l_24 =>
  some l_24
 else
 (M28 slices_1 (((((slices_1).length : Int)) - 0 : Int).toNat + 1) 0 ((([] : List TOutcome)))).bind fun l_36 =>
 some l_36
def M30 : Option (TOutcome) :=
 some ({ Out := true, Seg := (-1), Lo := 0, Hi := 0 } : TOutcome)
def M31 (k_1 : TClocks) (x_2 : TOutcome) : Option (Int) :=
 (M25 k_1).bind fun r_4 =>
 bif r_4 != 0 then some r_4 else
 bif x_2.Out then
  (M30).bind fun r_13 =>
  bif !((x_2.Out == r_13.Out) && ((x_2.Seg == r_13.Seg) && ((x_2.Lo == r_13.Lo) && ((x_2.Hi == r_13.Hi) && true)))) then some 230 else
  some 0
 else
 bif !((decide (x_2.Seg ≥ (-1))) && ((decide (x_2.Seg < (((k_1.Segments).length : Int)))) && ((decide (x_2.Lo ≥ (-288230376151711744))) && ((decide (x_2.Lo ≤ x_2.Hi)) && (decide (x_2.Hi ≤ 288230376151711744)))))) then some 230 else
 some 0
def M32 (r_1 : TRunner) (c_2 : Int) : Option (Bool) :=
 (idx r_1.Worlds c_2).bind fun x_4 =>
 some ((((x_4).length : Int)) == 0)
def M33 (s_1 : List TRunner) (c_2 : Int) (k_8 : Unit → Option (Int)) : Nat → Int → Option (Int)
  | 0, _ => none
  | n_6 + 1, v_5 =>
    bif decide (v_5 < (((s_1).length : Int))) then
     (idx s_1 v_5).bind fun x_10 =>
     (M32 x_10 c_2).bind fun r_11 =>
     bif r_11 then some v_5 else
     (M33 s_1 c_2 k_8 n_6) ((w64 (v_5 + 1)))
    else
    k_8 ()
def M34 (_ : Unit) : Option (Int) :=
 some (-1)
def M35 (s_1 : List TRunner) (c_2 : Int) : Option (Int) :=
 M33 s_1 c_2 M34 (((((s_1).length : Int)) - 0 : Int).toNat + 1) 0
def M36 (s_1 : List TRunner) (c_2 : Int) : Option (Bool) :=
 (M35 s_1 c_2).bind fun r_4 =>
 some (decide (r_4 ≥ 0))
def M37 (f_1 : TField) (k_7 : Unit → Option (Bool)) : Nat → Int → Option (Bool)
  | 0, _ => none
  | n_5 + 1, v_4 =>
    bif decide (v_4 < (w64 ((((f_1.Pairs).length : Int)) + 1))) then
     (M36 f_1.Runners v_4).bind fun r_9 =>
     bif !r_9 then some true else
     (M37 f_1 k_7 n_5) ((w64 (v_4 + 1)))
    else
    k_7 ()
def M38 (_ : Unit) : Option (Bool) :=
 some false
def M39 (f_1 : TField) : Option (Bool) :=
 M37 f_1 M38 (((w64 ((((f_1.Pairs).length : Int)) + 1)) - 0 : Int).toNat + 1) 0
def M40 (f_1 : TField) (k_19 : Unit → Option (Int)) : Nat → Int → Int → Int → Option (Int)
  | 0, _, _, _ => none
  | n_17 + 1, v_14, v_15, v_16 =>
    bif decide (v_14 < (((f_1.Pairs).length : Int))) then
     (idx f_1.Pairs v_14).bind fun x_21 =>
     bif (decide (x_21.A < 1)) || ((decide (x_21.A ≥ x_21.B)) || ((decide (x_21.B > 9999)) || ((decide (x_21.A < v_15)) || ((x_21.A == v_15) && (decide (x_21.B ≤ v_16)))))) then some 240 else
     (M40 f_1 k_19 n_17) ((w64 (v_14 + 1))) x_21.A x_21.B
    else
    k_19 ()
def M41 (f_1 : TField) (r_45 : List TOutcome) (k_51 : Unit → Option (Int)) : Nat → Int → Option (Int)
  | 0, _ => none
  | n_49 + 1, v_48 =>
    bif decide (v_48 < (((r_45).length : Int))) then
     (idx r_45 v_48).bind fun x_53 =>
     (M31 f_1.Clocks x_53).bind fun r_54 =>
     bif r_54 != 0 then some 240 else
     (M41 f_1 r_45 k_51 n_49) ((w64 (v_48 + 1)))
    else
    k_51 ()
def M42 (v_32 : Int) (nx_34 : Int → Int → Option (Int)) (x_37 : TRunner) (_ : Unit) : Option (Int) :=
 nx_34 x_37.Bib ((w64 (v_32 + 1)))
def M43 (f_1 : TField) (k_35 : Unit → Option (Int)) : Nat → Int → Int → Option (Int)
  | 0, _, _ => none
  | n_33 + 1, bib_31, v_32 =>
    bif decide (v_32 < (((f_1.Runners).length : Int))) then
     (idx f_1.Runners v_32).bind fun x_37 =>
     Option.bind (
      bif decide (x_37.Bib ≤ bib_31) then some true else
      bif decide (x_37.Bib > 9999) then some true else
      (idx f_1.Runners 0).bind fun x_42 =>
      bif (((x_37.Keys).length : Int)) != (((x_42.Keys).length : Int)) then some true else
      some ((((x_37.Worlds).length : Int)) != (w64 ((((f_1.Pairs).length : Int)) + 1)))
     ) fun v_38 =>
     bif v_38 then some 240 else
     (M29 x_37.Worlds).bind fun r_45 =>
     M41 f_1 r_45 (M42 v_32 (M43 f_1 k_35 n_33) x_37) (((((r_45).length : Int)) - 0 : Int).toNat + 1) 0
    else
    k_35 ()
def M44 (f_1 : TField) (_ : Unit) : Option (Int) :=
 (M39 f_1).bind fun r_57 =>
 bif !r_57 then some 240 else
 some 0
def M45 (f_1 : TField) (_ : Unit) : Option (Int) :=
 M43 f_1 (M44 f_1) (((((f_1.Runners).length : Int)) - 0 : Int).toNat + 1) 0 0
def M46 (f_1 : TField) : Option (Int) :=
 Option.bind (
  (M25 f_1.Clocks).bind fun r_5 =>
  bif r_5 != 0 then some true else
  bif decide ((((f_1.Pairs).length : Int)) > 16) then some true else
  bif decide ((((f_1.Runners).length : Int)) < 1) then some true else
  some (decide ((((f_1.Runners).length : Int)) > 4000))
 ) fun v_3 =>
 bif v_3 then some 240 else
 M40 f_1 (M45 f_1) (((((f_1.Pairs).length : Int)) - 0 : Int).toNat + 1) 0 0 0
def M47 (f_1 : List TField) (k_9 : Unit → Option (Int)) : Nat → Int → Option (Int)
  | 0, _ => none
  | n_7 + 1, v_6 =>
    bif decide (v_6 < (((f_1).length : Int))) then
     (idx f_1 v_6).bind fun x_11 =>
     (M46 x_11).bind fun r_12 =>
     bif r_12 != 0 then some r_12 else
     (M47 f_1 k_9 n_7) ((w64 (v_6 + 1)))
    else
    k_9 ()
def M48 (_ : Unit) : Option (Int) :=
 some 0
def M49 (f_1 : List TField) : Option (Int) :=
 bif decide ((((f_1).length : Int)) < 1) then some 330 else
 bif decide ((((f_1).length : Int)) > 12) then some 330 else
 M47 f_1 M48 (((((f_1).length : Int)) - 0 : Int).toNat + 1) 0
def M50 (r_1 : TRunner) (c_2 : Int) : Option (Bool) :=
 some (r_1.Bib == c_2)
def M51 (s_1 : List TRunner) (c_2 : Int) (k_8 : Unit → Option (Int)) : Nat → Int → Option (Int)
  | 0, _ => none
  | n_6 + 1, v_5 =>
    bif decide (v_5 < (((s_1).length : Int))) then
     (idx s_1 v_5).bind fun x_10 =>
     (M50 x_10 c_2).bind fun r_11 =>
     bif r_11 then some v_5 else
     (M51 s_1 c_2 k_8 n_6) ((w64 (v_5 + 1)))
    else
    k_8 ()
def M52 (_ : Unit) : Option (Int) :=
 some (-1)
def M53 (s_1 : List TRunner) (c_2 : Int) : Option (Int) :=
 M51 s_1 c_2 M52 (((((s_1).length : Int)) - 0 : Int).toNat + 1) 0
def M54 (f_1 : TField) (bib_2 : Int) : Option (Int × Bool) :=
 (M53 f_1.Runners bib_2).bind fun r_5 =>
 some ((maxG r_5 0), (decide (r_5 ≥ 0)))
def M55 (x_1 : TRunner) (c_2 : Int) : Option (Bool) :=
 bif decide (c_2 ≥ (((x_1.Worlds).length : Int))) then some true else
 (idx x_1.Worlds c_2).bind fun x_5 =>
 some ((((x_5).length : Int)) == 0)
def M56 (s_1 : List TRunner) (c_2 : Int) (k_8 : Unit → Option (Int)) : Nat → Int → Option (Int)
  | 0, _ => none
  | n_6 + 1, v_5 =>
    bif decide (v_5 < (((s_1).length : Int))) then
     (idx s_1 v_5).bind fun x_10 =>
     (M55 x_10 c_2).bind fun r_11 =>
     bif r_11 then some v_5 else
     (M56 s_1 c_2 k_8 n_6) ((w64 (v_5 + 1)))
    else
    k_8 ()
def M57 (_ : Unit) : Option (Int) :=
 some (-1)
def M58 (s_1 : List TRunner) (c_2 : Int) : Option (Int) :=
 M56 s_1 c_2 M57 (((((s_1).length : Int)) - 0 : Int).toNat + 1) 0
def M59 (s_1 : List TRunner) (c_2 : Int) : Option (Bool) :=
 (M58 s_1 c_2).bind fun r_4 =>
 some (decide (r_4 ≥ 0))
def M60 (f_1 : TField) (world_2 : Int) : Option (Bool) :=
 (M59 f_1.Runners world_2).bind fun r_4 =>
 some (!r_4)
def M61 (k_1 : TClocks) (seg_2 : Int) (x_3 : TSpan) : Option (TSpan) :=
 bif seg_2 == (-1) then some x_3 else
 (idx k_1.Far (w64 (seg_2 + 1))).bind fun x_6 =>
 (idx x_6 0).bind fun x_7 =>
 (idx k_1.Far 0).bind fun x_8 =>
 (idx x_8 (w64 (seg_2 + 1))).bind fun x_9 =>
 some ({ Lo := (w64 (x_3.Lo - x_7)), Hi := (w64 (x_3.Hi + x_9)) } : TSpan)
def M62 (k_1 : TClocks) (x_2 : TOutcome) : Option (TSpan × Int) :=
 (M31 k_1 x_2).bind fun r_5 =>
 bif r_5 != 0 then some (({ Lo := 0, Hi := 0 } : TSpan), r_5) else
 bif x_2.Out then some (({ Lo := 0, Hi := 0 } : TSpan), 230) else
 (M61 k_1 x_2.Seg ({ Lo := x_2.Lo, Hi := x_2.Hi } : TSpan)).bind fun r_9 =>
 some (r_9, 0)
def M63 (s_1 : TSpan) : Option (Int) :=
 bif decide (s_1.Lo < (-70368744177664)) then some 10 else
 bif decide (s_1.Hi > 70368744177664) then some 10 else
 bif decide (s_1.Lo > s_1.Hi) then some 10 else
 some 0
def M64 (s_1 : TSpan) : Option (Bool) :=
 (M63 s_1).bind fun r_3 =>
 some (r_3 != 0)
def M65 (s_1 : List TSpan) (k_7 : Unit → Option (Int)) : Nat → Int → Option (Int)
  | 0, _ => none
  | n_5 + 1, v_4 =>
    bif decide (v_4 < (((s_1).length : Int))) then
     (idx s_1 v_4).bind fun x_9 =>
     (M64 x_9).bind fun r_10 =>
     bif r_10 then some v_4 else
     (M65 s_1 k_7 n_5) ((w64 (v_4 + 1)))
    else
    k_7 ()
def M66 (_ : Unit) : Option (Int) :=
 some (-1)
def M67 (s_1 : List TSpan) : Option (Int) :=
 M65 s_1 M66 (((((s_1).length : Int)) - 0 : Int).toNat + 1) 0
def M68 (s_1 : List TSpan) : Option (Bool) :=
 (M67 s_1).bind fun r_3 =>
 some (decide (r_3 ≥ 0))
def M69 (lists_1 : List (List TSpan)) (k_7 : Unit → Option (Int)) : Nat → Int → Option (Int)
  | 0, _ => none
  | n_5 + 1, v_4 =>
    bif decide (v_4 < (((lists_1).length : Int))) then
     (idx lists_1 v_4).bind fun x_9 =>
     bif decide ((((x_9).length : Int)) > 4096) then some 2 else
     (M68 x_9).bind fun r_11 =>
     bif r_11 then some 10 else
     (M69 lists_1 k_7 n_5) ((w64 (v_4 + 1)))
    else
    k_7 ()
def M70 (_ : Unit) : Option (Int) :=
 some 0
def M71 (lists_1 : List (List TSpan)) : Option (Int) :=
 M69 lists_1 M70 (((((lists_1).length : Int)) - 0 : Int).toNat + 1) 0
def M72 (s_1 : List TSpan) : Option (List TSpan) :=
 some s_1
def M73 (c_1 : List TSpan) (k_6 : Unit → Option (List TSpan)) : Nat → Int → Option (List TSpan)
  | 0, _ => none
  | n_4 + 1, v_3 =>
    bif decide (v_3 < (((c_1).length : Int))) then
     (idx c_1 v_3).bind fun x_8 =>
     Option.bind (
      (M73 c_1 k_6 n_4) ((w64 (v_3 + 1)))
     ) fun l => some (x_8 :: l)
    else
    k_6 ()
def M74 (_ : Unit) : Option (List TSpan) :=
 some []
def M75 (c_1 : List TSpan) : Option (List TSpan) :=
 M73 c_1 M74 (((((c_1).length : Int)) - 0 : Int).toNat + 1) 0
def M76 (x_1 : Int) : Option (Int) :=
  if 0 ≤ x_1 ∧ x_1 ≤ 18446744073709551615 then some (Lib.bitLen x_1.toNat : Int) else none
def M77 (a_1 : TSpan) (b_2 : TSpan) : Option (Int) :=
 (M4 a_1.Lo b_2.Lo).bind fun r_4 =>
 (M4 a_1.Hi b_2.Hi).bind fun r_6 =>
 (M7 ((([r_4, r_6] : List Int)))).bind fun r_8 =>
 some r_8
def M78 (a_1 : Int) : Nat → Int → (List TSpan) → Option (List TSpan)
  | 0, _, _ => none
  | n_18 + 1, j_16, l_17 =>
    bif decide (j_16 > a_1) then
     (idx l_17 j_16).bind fun x_23 =>
     (idx l_17 (w64 (j_16 - 1))).bind fun x_24 =>
     (M77 x_23 x_24).bind fun r_25 =>
     bif decide (r_25 < 0) then
      (idx l_17 (w64 (j_16 - 1))).bind fun x_28 =>
      (idx l_17 j_16).bind fun x_29 =>
      (idx l_17 j_16).bind fun x_30 =>
      (idx (List.set l_17 (Int.toNat j_16) x_28) (w64 (j_16 - 1))).bind fun x_31 =>
      (M78 a_1 n_18) ((w64 (j_16 - 1))) ((List.set (List.set l_17 (Int.toNat j_16) x_28) (Int.toNat (w64 (j_16 - 1))) x_29))
     else
     some l_17
    else
    some l_17
def M79 (a_1 : Int) (b_2 : Int) : Nat → Int → (List TSpan) → Option (List TSpan)
  | 0, _, _ => none
  | n_9 + 1, i_7, l_8 =>
    bif decide (i_7 < b_2) then
     (M78 a_1 ((i_7 - a_1 : Int).toNat + 1) i_7 l_8).bind fun l_19 =>
     (M79 a_1 b_2 n_9) ((w64 (i_7 + 1))) l_19
    else
    some l_8
def M80 (a_1 : Int) (b_2 : Int) (l_3 : List TSpan) : Option (List TSpan) :=
 (M79 a_1 b_2 ((b_2 - (w64 (a_1 + 1)) : Int).toNat + 1) ((w64 (a_1 + 1))) l_3).bind fun l_10 =>
 some l_10
def M81 (hi_2 : Int) (first_3 : Int) (k_13 : (List TSpan) → Option (List TSpan)) : Nat → Int → (List TSpan) → Option (List TSpan)
  | 0, _, _ => none
  | n_10 + 1, root_8, l_9 =>
    bif decide ((w64 ((w64 (2 * root_8)) + 1)) ≥ hi_2) then k_13 l_9 else
    bif decide ((w64 ((w64 ((w64 (2 * root_8)) + 1)) + 1)) < hi_2) then
     (idx l_9 (w64 (first_3 + (w64 ((w64 (2 * root_8)) + 1))))).bind fun x_16 =>
     (idx l_9 (w64 ((w64 (first_3 + (w64 ((w64 (2 * root_8)) + 1)))) + 1))).bind fun x_17 =>
     (M77 x_16 x_17).bind fun r_18 =>
     bif decide (r_18 < 0) then
      (idx l_9 (w64 (first_3 + root_8))).bind fun x_21 =>
      (idx l_9 (w64 (first_3 + (w64 ((w64 ((w64 (2 * root_8)) + 1)) + 1))))).bind fun x_22 =>
      (M77 x_21 x_22).bind fun r_23 =>
      bif !(decide (r_23 < 0)) then some l_9 else
      (idx l_9 (w64 (first_3 + (w64 ((w64 ((w64 (2 * root_8)) + 1)) + 1))))).bind fun x_26 =>
      (idx l_9 (w64 (first_3 + root_8))).bind fun x_27 =>
      (idx l_9 (w64 (first_3 + root_8))).bind fun x_28 =>
      (idx (List.set l_9 (Int.toNat (w64 (first_3 + root_8))) x_26) (w64 (first_3 + (w64 ((w64 ((w64 (2 * root_8)) + 1)) + 1))))).bind fun x_29 =>
      (M81 hi_2 first_3 k_13 n_10) ((w64 ((w64 ((w64 (2 * root_8)) + 1)) + 1))) ((List.set (List.set l_9 (Int.toNat (w64 (first_3 + root_8))) x_26) (Int.toNat (w64 (first_3 + (w64 ((w64 ((w64 (2 * root_8)) + 1)) + 1))))) x_27))
     else
     (idx l_9 (w64 (first_3 + root_8))).bind fun x_30 =>
     (idx l_9 (w64 (first_3 + (w64 ((w64 (2 * root_8)) + 1))))).bind fun x_31 =>
     (M77 x_30 x_31).bind fun r_32 =>
     bif !(decide (r_32 < 0)) then some l_9 else
     (idx l_9 (w64 (first_3 + (w64 ((w64 (2 * root_8)) + 1))))).bind fun x_35 =>
     (idx l_9 (w64 (first_3 + root_8))).bind fun x_36 =>
     (idx l_9 (w64 (first_3 + root_8))).bind fun x_37 =>
     (idx (List.set l_9 (Int.toNat (w64 (first_3 + root_8))) x_35) (w64 (first_3 + (w64 ((w64 (2 * root_8)) + 1))))).bind fun x_38 =>
     (M81 hi_2 first_3 k_13 n_10) ((w64 ((w64 (2 * root_8)) + 1))) ((List.set (List.set l_9 (Int.toNat (w64 (first_3 + root_8))) x_35) (Int.toNat (w64 (first_3 + (w64 ((w64 (2 * root_8)) + 1))))) x_36))
    else
    (idx l_9 (w64 (first_3 + root_8))).bind fun x_39 =>
    (idx l_9 (w64 (first_3 + (w64 ((w64 (2 * root_8)) + 1))))).bind fun x_40 =>
    (M77 x_39 x_40).bind fun r_41 =>
    bif !(decide (r_41 < 0)) then some l_9 else
    (idx l_9 (w64 (first_3 + (w64 ((w64 (2 * root_8)) + 1))))).bind fun x_44 =>
    (idx l_9 (w64 (first_3 + root_8))).bind fun x_45 =>
    (idx l_9 (w64 (first_3 + root_8))).bind fun x_46 =>
    (idx (List.set l_9 (Int.toNat (w64 (first_3 + root_8))) x_44) (w64 (first_3 + (w64 ((w64 (2 * root_8)) + 1))))).bind fun x_47 =>
    (M81 hi_2 first_3 k_13 n_10) ((w64 ((w64 (2 * root_8)) + 1))) ((List.set (List.set l_9 (Int.toNat (w64 (first_3 + root_8))) x_44) (Int.toNat (w64 (first_3 + (w64 ((w64 (2 * root_8)) + 1))))) x_45))
def M82 (l_11 : List TSpan) : Option (List TSpan) :=
 some l_11
def M83 (lo_1 : Int) (hi_2 : Int) (first_3 : Int) (l_4 : List TSpan) : Option (List TSpan) :=
 M81 hi_2 first_3 M82 (List.length l_4 + 1) lo_1 l_4
def M84 (a_1 : Int) (b_2 : Int) : Nat → Int → (List TSpan) → Option (List TSpan)
  | 0, _, _ => none
  | n_9 + 1, i_7, l_8 =>
    bif decide (i_7 ≥ 0) then
     (M83 i_7 ((w64 (b_2 - a_1))) a_1 l_8).bind fun l_14 =>
     (lenIs l_14 l_8).bind fun _ =>
     (M84 a_1 b_2 n_9) ((w64 (i_7 - 1))) l_14
    else
    some l_8
def M85 (a_1 : Int) : Nat → Int → (List TSpan) → Option (List TSpan)
  | 0, _, _ => none
  | n_22 + 1, i_20, l_21 =>
    bif decide (i_20 ≥ 0) then
     (idx l_21 (w64 (a_1 + i_20))).bind fun x_27 =>
     (idx l_21 a_1).bind fun x_28 =>
     (idx l_21 a_1).bind fun x_29 =>
     (idx (List.set l_21 (Int.toNat a_1) x_27) (w64 (a_1 + i_20))).bind fun x_30 =>
     (M83 0 i_20 a_1 ((List.set (List.set l_21 (Int.toNat a_1) x_27) (Int.toNat (w64 (a_1 + i_20))) x_28))).bind fun l_31 =>
     (lenIs l_31 (List.set (List.set l_21 (Int.toNat a_1) x_27) (Int.toNat (w64 (a_1 + i_20))) x_28)).bind fun _ =>
     (M85 a_1 n_22) ((w64 (i_20 - 1))) l_31
    else
    some l_21
def M86 (a_1 : Int) (b_2 : Int) (l_3 : List TSpan) : Option (List TSpan) :=
 (M84 a_1 b_2 (((w64 (Int.tdiv (w64 ((w64 (b_2 - a_1)) - 1)) 2)) + 1 - 0 : Int).toNat + 1) ((w64 (Int.tdiv (w64 ((w64 (b_2 - a_1)) - 1)) 2))) l_3).bind fun l_10 =>
 (M85 a_1 (((w64 ((w64 (b_2 - a_1)) - 1)) + 1 - 0 : Int).toNat + 1) ((w64 ((w64 (b_2 - a_1)) - 1))) l_10).bind fun l_23 =>
 some l_23
def M87 (data_1 : List TSpan) (a_2 : Int) (b_3 : Int) (v_4 : Int) : Option (Int × Int × Int) :=
 (idx data_1 b_3).bind fun x_8 =>
 (idx data_1 a_2).bind fun x_9 =>
 (M77 x_8 x_9).bind fun r_10 =>
 bif decide (r_10 < 0) then some (b_3, a_2, (w64 (v_4 + 1))) else
 some (a_2, b_3, v_4)
def M88 (data_1 : List TSpan) (a_2 : Int) (b_3 : Int) (c_4 : Int) (v_5 : Int) : Option (Int × Int) :=
 (M87 data_1 a_2 b_3 v_5).bind fun (r_8, r_9, b_10) =>
 (M87 data_1 r_9 c_4 b_10).bind fun (r_12, r_13, b_14) =>
 (M87 data_1 r_8 r_12 b_14).bind fun (r_16, r_17, b_18) =>
 some (r_17, b_18)
def M89 (data_1 : List TSpan) (a_2 : Int) (v_3 : Int) : Option (Int × Int) :=
 (M88 data_1 ((w64 (a_2 - 1))) a_2 ((w64 (a_2 + 1))) v_3).bind fun (r_6, b_7) =>
 some (r_6, b_7)
def M90 (data_1 : List TSpan) (a_2 : Int) (b_3 : Int) : Option (Int × Int) :=
 bif decide ((w64 (b_3 - a_2)) ≥ 8) then
  bif decide ((w64 (b_3 - a_2)) ≥ 50) then
   (M89 data_1 ((w64 (a_2 + (w64 ((w64 (Int.tdiv (w64 (b_3 - a_2)) 4)) * 1))))) 0).bind fun (r_8, b_9) =>
   (M89 data_1 ((w64 (a_2 + (w64 ((w64 (Int.tdiv (w64 (b_3 - a_2)) 4)) * 2))))) b_9).bind fun (r_11, b_12) =>
   (M89 data_1 ((w64 (a_2 + (w64 ((w64 (Int.tdiv (w64 (b_3 - a_2)) 4)) * 3))))) b_12).bind fun (r_14, b_15) =>
   (M88 data_1 r_8 r_11 r_14 b_15).bind fun (r_17, b_18) =>
   bif b_18 == 0 then some (r_17, 1) else
   bif b_18 == 12 then some (r_17, 2) else
   some (r_17, 0)
  else
  (M88 data_1 ((w64 (a_2 + (w64 ((w64 (Int.tdiv (w64 (b_3 - a_2)) 4)) * 1))))) ((w64 (a_2 + (w64 ((w64 (Int.tdiv (w64 (b_3 - a_2)) 4)) * 2))))) ((w64 (a_2 + (w64 ((w64 (Int.tdiv (w64 (b_3 - a_2)) 4)) * 3))))) 0).bind fun (r_22, b_23) =>
  bif b_23 == 0 then some (r_22, 1) else
  bif b_23 == 12 then some (r_22, 2) else
  some (r_22, 0)
 else
 some ((w64 (a_2 + (w64 ((w64 (Int.tdiv (w64 (b_3 - a_2)) 4)) * 2)))), 1)
def M91 : Nat → Int → Int → (List TSpan) → Option (List TSpan)
  | 0, _, _, _ => none
  | n_11 + 1, i_8, j_9, l_10 =>
    bif decide (i_8 < j_9) then
     (idx l_10 j_9).bind fun x_16 =>
     (idx l_10 i_8).bind fun x_17 =>
     (idx l_10 i_8).bind fun x_18 =>
     (idx (List.set l_10 (Int.toNat i_8) x_16) j_9).bind fun x_19 =>
     (M91 n_11) ((w64 (i_8 + 1))) ((w64 (j_9 - 1))) ((List.set (List.set l_10 (Int.toNat i_8) x_16) (Int.toNat j_9) x_17))
    else
    some l_10
def M92 (a_1 : Int) (b_2 : Int) (l_3 : List TSpan) : Option (List TSpan) :=
 (M91 (((w64 (b_2 - 1)) - a_1 : Int).toNat + 1) a_1 ((w64 (b_2 - 1))) l_3).bind fun l_12 =>
 some l_12
def M93 (j_10 : Int) (nx_14 : Int → Int → (List TSpan) → Option (Bool × List TSpan)) (i_17 : Int) (l_18 : List TSpan) : Option (Bool × List TSpan) :=
 nx_14 i_17 ((w64 (j_10 + 1))) l_18
def M94 (b_2 : Int) (l_11 : List TSpan) : Nat → Int → Option (Int)
  | 0, _ => none
  | n_21 + 1, i_20 =>
    bif decide (i_20 < b_2) then
     (idx l_11 i_20).bind fun x_26 =>
     (idx l_11 (w64 (i_20 - 1))).bind fun x_27 =>
     (M77 x_26 x_27).bind fun r_28 =>
     bif !(decide (r_28 < 0)) then (M94 b_2 l_11 n_21) ((w64 (i_20 + 1))) else
     some i_20
    else
    some i_20
def M95 : Nat → Int → (List TSpan) → Option (List TSpan)
  | 0, _, _ => none
  | n_43 + 1, j_41, l_42 =>
    bif decide (j_41 ≥ 1) then
     (idx l_42 j_41).bind fun x_48 =>
     (idx l_42 (w64 (j_41 - 1))).bind fun x_49 =>
     (M77 x_48 x_49).bind fun r_50 =>
     bif !(decide (r_50 < 0)) then some l_42 else
     (idx l_42 (w64 (j_41 - 1))).bind fun x_53 =>
     (idx l_42 j_41).bind fun x_54 =>
     (idx l_42 j_41).bind fun x_55 =>
     (idx (List.set l_42 (Int.toNat j_41) x_53) (w64 (j_41 - 1))).bind fun x_56 =>
     (M95 n_43) ((w64 (j_41 - 1))) ((List.set (List.set l_42 (Int.toNat j_41) x_53) (Int.toNat (w64 (j_41 - 1))) x_54))
    else
    some l_42
def M96 (b_2 : Int) : Nat → Int → (List TSpan) → Option (List TSpan)
  | 0, _, _ => none
  | n_63 + 1, j_61, l_62 =>
    bif decide (j_61 < b_2) then
     (idx l_62 j_61).bind fun x_68 =>
     (idx l_62 (w64 (j_61 - 1))).bind fun x_69 =>
     (M77 x_68 x_69).bind fun r_70 =>
     bif !(decide (r_70 < 0)) then some l_62 else
     (idx l_62 (w64 (j_61 - 1))).bind fun x_73 =>
     (idx l_62 j_61).bind fun x_74 =>
     (idx l_62 j_61).bind fun x_75 =>
     (idx (List.set l_62 (Int.toNat j_61) x_73) (w64 (j_61 - 1))).bind fun x_76 =>
     (M96 b_2 n_63) ((w64 (j_61 + 1))) ((List.set (List.set l_62 (Int.toNat j_61) x_73) (Int.toNat (w64 (j_61 - 1))) x_74))
    else
    some l_62
def M97 (b_2 : Int) : Nat → Int → (List TSpan) → Option (List TSpan)
  | 0, _, _ => none
  | n_83 + 1, j_81, l_82 =>
    bif decide (j_81 < b_2) then
     (idx l_82 j_81).bind fun x_88 =>
     (idx l_82 (w64 (j_81 - 1))).bind fun x_89 =>
     (M77 x_88 x_89).bind fun r_90 =>
     bif !(decide (r_90 < 0)) then some l_82 else
     (idx l_82 (w64 (j_81 - 1))).bind fun x_93 =>
     (idx l_82 j_81).bind fun x_94 =>
     (idx l_82 j_81).bind fun x_95 =>
     (idx (List.set l_82 (Int.toNat j_81) x_93) (w64 (j_81 - 1))).bind fun x_96 =>
     (M97 b_2 n_83) ((w64 (j_81 + 1))) ((List.set (List.set l_82 (Int.toNat j_81) x_93) (Int.toNat (w64 (j_81 - 1))) x_94))
    else
    some l_82
def M98 (a_1 : Int) (b_2 : Int) (k_15 : (List TSpan) → Option (Bool × List TSpan)) : Nat → Int → Int → (List TSpan) → Option (Bool × List TSpan)
  | 0, _, _, _ => none
  | n_12 + 1, i_9, j_10, l_11 =>
    bif decide (j_10 < 5) then
     (M94 b_2 l_11 ((b_2 - i_9 : Int).toNat + 1) i_9).bind fun i_22 =>
     bif i_22 == b_2 then some (true, l_11) else
     bif decide ((w64 (b_2 - a_1)) < 50) then some (false, l_11) else
     (idx l_11 (w64 (i_22 - 1))).bind fun x_34 =>
     (idx l_11 i_22).bind fun x_35 =>
     (idx l_11 i_22).bind fun x_36 =>
     (idx (List.set l_11 (Int.toNat i_22) x_34) (w64 (i_22 - 1))).bind fun x_37 =>
     bif decide ((w64 (i_22 - a_1)) ≥ 2) then
      (M95 (((w64 (i_22 - 1)) + 1 - 1 : Int).toNat + 1) ((w64 (i_22 - 1))) ((List.set (List.set l_11 (Int.toNat i_22) x_34) (Int.toNat (w64 (i_22 - 1))) x_35))).bind fun l_44 =>
      bif decide ((w64 (b_2 - i_22)) ≥ 2) then
       (M96 b_2 ((b_2 - (w64 (i_22 + 1)) : Int).toNat + 1) ((w64 (i_22 + 1))) l_44).bind fun l_64 =>
       M93 j_10 (M98 a_1 b_2 k_15 n_12) i_22 l_64
      else
      M93 j_10 (M98 a_1 b_2 k_15 n_12) i_22 l_44
     else
     bif decide ((w64 (b_2 - i_22)) ≥ 2) then
      (M97 b_2 ((b_2 - (w64 (i_22 + 1)) : Int).toNat + 1) ((w64 (i_22 + 1))) ((List.set (List.set l_11 (Int.toNat i_22) x_34) (Int.toNat (w64 (i_22 - 1))) x_35))).bind fun l_84 =>
      M93 j_10 (M98 a_1 b_2 k_15 n_12) i_22 l_84
     else
     M93 j_10 (M98 a_1 b_2 k_15 n_12) i_22 ((List.set (List.set l_11 (Int.toNat i_22) x_34) (Int.toNat (w64 (i_22 - 1))) x_35))
    else
    k_15 l_11
def M99 (l_13 : List TSpan) : Option (Bool × List TSpan) :=
 some (false, l_13)
def M100 (a_1 : Int) (b_2 : Int) (l_3 : List TSpan) : Option (Bool × List TSpan) :=
 M98 a_1 b_2 M99 ((5 - 0 : Int).toNat + 1) ((w64 (a_1 + 1))) 0 l_3
def M101 (a_1 : Int) (j_15 : Int) (l_16 : List TSpan) : Nat → Int → Option (Int)
  | 0, _ => none
  | n_24 + 1, i_23 =>
    bif decide (i_23 ≤ j_15) then
     (idx l_16 a_1).bind fun x_29 =>
     (idx l_16 i_23).bind fun x_30 =>
     (M77 x_29 x_30).bind fun r_31 =>
     bif !(decide (r_31 < 0)) then (M101 a_1 j_15 l_16 n_24) ((w64 (i_23 + 1))) else
     some i_23
    else
    some i_23
def M102 (a_1 : Int) (l_16 : List TSpan) (i_25 : Int) : Nat → Int → Option (Int)
  | 0, _ => none
  | n_37 + 1, j_36 =>
    bif decide (i_25 ≤ j_36) then
     (idx l_16 a_1).bind fun x_42 =>
     (idx l_16 j_36).bind fun x_43 =>
     (M77 x_42 x_43).bind fun r_44 =>
     bif decide (r_44 < 0) then (M102 a_1 l_16 i_25 n_37) ((w64 (j_36 - 1))) else
     some j_36
    else
    some j_36
def M103 (a_1 : Int) : Nat → Int → Int → (List TSpan) → Option (Int × List TSpan)
  | 0, _, _, _ => none
  | n_17 + 1, i_14, j_15, l_16 =>
    (M101 a_1 j_15 l_16 ((j_15 + 1 - i_14 : Int).toNat + 1) i_14).bind fun i_25 =>
    (M102 a_1 l_16 i_25 ((j_15 + 1 - i_25 : Int).toNat + 1) j_15).bind fun j_38 =>
    bif decide (i_25 > j_38) then some (i_25, l_16) else
    (idx l_16 j_38).bind fun x_49 =>
    (idx l_16 i_25).bind fun x_50 =>
    (idx l_16 i_25).bind fun x_51 =>
    (idx (List.set l_16 (Int.toNat i_25) x_49) j_38).bind fun x_52 =>
    (M103 a_1 n_17) ((w64 (i_25 + 1))) ((w64 (j_38 - 1))) ((List.set (List.set l_16 (Int.toNat i_25) x_49) (Int.toNat j_38) x_50))
def M104 (a_1 : Int) (b_2 : Int) (pivot_3 : Int) (l_4 : List TSpan) : Option (Int × List TSpan) :=
 (idx l_4 pivot_3).bind fun x_7 =>
 (idx l_4 a_1).bind fun x_8 =>
 (idx l_4 a_1).bind fun x_9 =>
 (idx (List.set l_4 (Int.toNat a_1) x_7) pivot_3).bind fun x_10 =>
 (M103 a_1 (List.length ((List.set (List.set l_4 (Int.toNat a_1) x_7) (Int.toNat pivot_3) x_8)) + 1) ((w64 (a_1 + 1))) ((w64 (b_2 - 1))) ((List.set (List.set l_4 (Int.toNat a_1) x_7) (Int.toNat pivot_3) x_8))).bind fun (i_18, l_19) =>
 some (i_18, l_19)
def M105 (a_1 : Int) (b_2 : Int) (pivot_3 : Int) (l_4 : List TSpan) (x_8 : TSpan) (x_9 : TSpan) : Nat → Int → Option (Int)
  | 0, _ => none
  | n_14 + 1, i_13 =>
    bif decide (i_13 ≤ (w64 (b_2 - 1))) then
     (idx (List.set (List.set l_4 (Int.toNat a_1) x_8) (Int.toNat pivot_3) x_9) i_13).bind fun x_19 =>
     (idx (List.set (List.set l_4 (Int.toNat a_1) x_8) (Int.toNat pivot_3) x_9) a_1).bind fun x_20 =>
     (M77 x_19 x_20).bind fun r_21 =>
     bif decide (r_21 < 0) then (M105 a_1 b_2 pivot_3 l_4 x_8 x_9 n_14) ((w64 (i_13 + 1))) else
     some i_13
    else
    some i_13
def M106 (a_1 : Int) (pivot_3 : Int) (l_4 : List TSpan) (x_8 : TSpan) (x_9 : TSpan) (i_15 : Int) : Nat → Int → Option (Int)
  | 0, _ => none
  | n_27 + 1, j_26 =>
    bif decide (i_15 ≤ j_26) then
     (idx (List.set (List.set l_4 (Int.toNat a_1) x_8) (Int.toNat pivot_3) x_9) j_26).bind fun x_32 =>
     (idx (List.set (List.set l_4 (Int.toNat a_1) x_8) (Int.toNat pivot_3) x_9) a_1).bind fun x_33 =>
     (M77 x_32 x_33).bind fun r_34 =>
     bif !(decide (r_34 < 0)) then (M106 a_1 pivot_3 l_4 x_8 x_9 i_15 n_27) ((w64 (j_26 - 1))) else
     some j_26
    else
    some j_26
def M107 (a_1 : Int) (j_51 : Int) (l_52 : List TSpan) : Nat → Int → Option (Int)
  | 0, _ => none
  | n_60 + 1, i_59 =>
    bif decide (i_59 ≤ j_51) then
     (idx l_52 i_59).bind fun x_65 =>
     (idx l_52 a_1).bind fun x_66 =>
     (M77 x_65 x_66).bind fun r_67 =>
     bif decide (r_67 < 0) then (M107 a_1 j_51 l_52 n_60) ((w64 (i_59 + 1))) else
     some i_59
    else
    some i_59
def M108 (a_1 : Int) (l_52 : List TSpan) (i_61 : Int) : Nat → Int → Option (Int)
  | 0, _ => none
  | n_73 + 1, j_72 =>
    bif decide (i_61 ≤ j_72) then
     (idx l_52 j_72).bind fun x_78 =>
     (idx l_52 a_1).bind fun x_79 =>
     (M77 x_78 x_79).bind fun r_80 =>
     bif !(decide (r_80 < 0)) then (M108 a_1 l_52 i_61 n_73) ((w64 (j_72 - 1))) else
     some j_72
    else
    some j_72
def M109 (a_1 : Int) : Nat → Int → Int → (List TSpan) → Option (Int × List TSpan)
  | 0, _, _, _ => none
  | n_53 + 1, i_50, j_51, l_52 =>
    (M107 a_1 j_51 l_52 ((j_51 + 1 - i_50 : Int).toNat + 1) i_50).bind fun i_61 =>
    (M108 a_1 l_52 i_61 ((j_51 + 1 - i_61 : Int).toNat + 1) j_51).bind fun j_74 =>
    bif decide (i_61 > j_74) then some (j_74, l_52) else
    (idx l_52 j_74).bind fun x_85 =>
    (idx l_52 i_61).bind fun x_86 =>
    (idx l_52 i_61).bind fun x_87 =>
    (idx (List.set l_52 (Int.toNat i_61) x_85) j_74).bind fun x_88 =>
    (M109 a_1 n_53) ((w64 (i_61 + 1))) ((w64 (j_74 - 1))) ((List.set (List.set l_52 (Int.toNat i_61) x_85) (Int.toNat j_74) x_86))
def M110 (a_1 : Int) (b_2 : Int) (pivot_3 : Int) (l_4 : List TSpan) : Option (Int × Bool × List TSpan) :=
 (idx l_4 pivot_3).bind fun x_8 =>
 (idx l_4 a_1).bind fun x_9 =>
 (idx l_4 a_1).bind fun x_10 =>
 (idx (List.set l_4 (Int.toNat a_1) x_8) pivot_3).bind fun x_11 =>
 (M105 a_1 b_2 pivot_3 l_4 x_8 x_9 (((w64 (b_2 - 1)) + 1 - (w64 (a_1 + 1)) : Int).toNat + 1) ((w64 (a_1 + 1)))).bind fun i_15 =>
 (M106 a_1 pivot_3 l_4 x_8 x_9 i_15 (((w64 (b_2 - 1)) + 1 - i_15 : Int).toNat + 1) ((w64 (b_2 - 1)))).bind fun j_28 =>
 bif decide (i_15 > j_28) then
  (idx (List.set (List.set l_4 (Int.toNat a_1) x_8) (Int.toNat pivot_3) x_9) a_1).bind fun x_39 =>
  (idx (List.set (List.set l_4 (Int.toNat a_1) x_8) (Int.toNat pivot_3) x_9) j_28).bind fun x_40 =>
  (idx (List.set (List.set l_4 (Int.toNat a_1) x_8) (Int.toNat pivot_3) x_9) j_28).bind fun x_41 =>
  (idx (List.set (List.set (List.set l_4 (Int.toNat a_1) x_8) (Int.toNat pivot_3) x_9) (Int.toNat j_28) x_39) a_1).bind fun x_42 =>
  some (j_28, true, (List.set (List.set (List.set (List.set l_4 (Int.toNat a_1) x_8) (Int.toNat pivot_3) x_9) (Int.toNat j_28) x_39) (Int.toNat a_1) x_40))
 else
 (idx (List.set (List.set l_4 (Int.toNat a_1) x_8) (Int.toNat pivot_3) x_9) j_28).bind fun x_43 =>
 (idx (List.set (List.set l_4 (Int.toNat a_1) x_8) (Int.toNat pivot_3) x_9) i_15).bind fun x_44 =>
 (idx (List.set (List.set l_4 (Int.toNat a_1) x_8) (Int.toNat pivot_3) x_9) i_15).bind fun x_45 =>
 (idx (List.set (List.set (List.set l_4 (Int.toNat a_1) x_8) (Int.toNat pivot_3) x_9) (Int.toNat i_15) x_43) j_28).bind fun x_46 =>
 (M109 a_1 (List.length ((List.set (List.set (List.set (List.set l_4 (Int.toNat a_1) x_8) (Int.toNat pivot_3) x_9) (Int.toNat i_15) x_43) (Int.toNat j_28) x_44)) + 1) ((w64 (i_15 + 1))) ((w64 (j_28 - 1))) ((List.set (List.set (List.set (List.set l_4 (Int.toNat a_1) x_8) (Int.toNat pivot_3) x_9) (Int.toNat i_15) x_43) (Int.toNat j_28) x_44))).bind fun (j_54, l_55) =>
 (idx l_55 a_1).bind fun x_90 =>
 (idx l_55 j_54).bind fun x_91 =>
 (idx l_55 j_54).bind fun x_92 =>
 (idx (List.set l_55 (Int.toNat j_54) x_90) a_1).bind fun x_93 =>
 some (j_54, false, (List.set (List.set l_55 (Int.toNat j_54) x_90) (Int.toNat a_1) x_91))
def M111 (length_1 : Int) : Option (Int) :=
 (M76 (IntKind.wrap .u64 length_1)).bind fun r_3 =>
 (nn r_3).bind fun u_5 =>
 some (shlK .u64 1 r_3)
def M112 (v_1 : Int) : Option (Int × Int) :=
 some ((bitK .u64 (BitVec.ofInt 64 (bitK .u64 (BitVec.ofInt 64 (bitK .u64 (BitVec.ofInt 64 v_1 ^^^ BitVec.ofInt 64 (shlK .u64 v_1 13))) ^^^ BitVec.ofInt 64 (shrK .u64 (bitK .u64 (BitVec.ofInt 64 v_1 ^^^ BitVec.ofInt 64 (shlK .u64 v_1 13))) 7))) ^^^ BitVec.ofInt 64 (shlK .u64 (bitK .u64 (BitVec.ofInt 64 (bitK .u64 (BitVec.ofInt 64 v_1 ^^^ BitVec.ofInt 64 (shlK .u64 v_1 13))) ^^^ BitVec.ofInt 64 (shrK .u64 (bitK .u64 (BitVec.ofInt 64 v_1 ^^^ BitVec.ofInt 64 (shlK .u64 v_1 13))) 7))) 17))), (bitK .u64 (BitVec.ofInt 64 (bitK .u64 (BitVec.ofInt 64 (bitK .u64 (BitVec.ofInt 64 v_1 ^^^ BitVec.ofInt 64 (shlK .u64 v_1 13))) ^^^ BitVec.ofInt 64 (shrK .u64 (bitK .u64 (BitVec.ofInt 64 v_1 ^^^ BitVec.ofInt 64 (shlK .u64 v_1 13))) 7))) ^^^ BitVec.ofInt 64 (shlK .u64 (bitK .u64 (BitVec.ofInt 64 (bitK .u64 (BitVec.ofInt 64 v_1 ^^^ BitVec.ofInt 64 (shlK .u64 v_1 13))) ^^^ BitVec.ofInt 64 (shrK .u64 (bitK .u64 (BitVec.ofInt 64 v_1 ^^^ BitVec.ofInt 64 (shlK .u64 v_1 13))) 7))) 17))))
def M113 (a_1 : Int) (b_2 : Int) (r_6 : Int) : Nat → Int → (List TSpan) → Int → Option (List TSpan)
  | 0, _, _, _ => none
  | n_14 + 1, idx_11, l_12, v_13 =>
    bif decide (idx_11 ≤ (w64 ((w64 (a_1 + (w64 ((w64 (Int.tdiv (w64 (b_2 - a_1)) 4)) * 2)))) + 1))) then
     (M112 v_13).bind fun (r_19, b_20) =>
     bif decide ((w64 (bitK .u64 (BitVec.ofInt 64 r_19 &&& BitVec.ofInt 64 (IntKind.wrap .u64 (r_6 - 1))))) ≥ (w64 (b_2 - a_1))) then
      (idx l_12 (w64 (a_1 + (w64 ((w64 (bitK .u64 (BitVec.ofInt 64 r_19 &&& BitVec.ofInt 64 (IntKind.wrap .u64 (r_6 - 1))))) - (w64 (b_2 - a_1))))))).bind fun x_23 =>
      (idx l_12 idx_11).bind fun x_24 =>
      (idx l_12 idx_11).bind fun x_25 =>
      (idx (List.set l_12 (Int.toNat idx_11) x_23) (w64 (a_1 + (w64 ((w64 (bitK .u64 (BitVec.ofInt 64 r_19 &&& BitVec.ofInt 64 (IntKind.wrap .u64 (r_6 - 1))))) - (w64 (b_2 - a_1))))))).bind fun x_26 =>
      (M113 a_1 b_2 r_6 n_14) ((w64 (idx_11 + 1))) ((List.set (List.set l_12 (Int.toNat idx_11) x_23) (Int.toNat (w64 (a_1 + (w64 ((w64 (bitK .u64 (BitVec.ofInt 64 r_19 &&& BitVec.ofInt 64 (IntKind.wrap .u64 (r_6 - 1))))) - (w64 (b_2 - a_1))))))) x_24)) b_20
     else
     (idx l_12 (w64 (a_1 + (w64 (bitK .u64 (BitVec.ofInt 64 r_19 &&& BitVec.ofInt 64 (IntKind.wrap .u64 (r_6 - 1)))))))).bind fun x_27 =>
     (idx l_12 idx_11).bind fun x_28 =>
     (idx l_12 idx_11).bind fun x_29 =>
     (idx (List.set l_12 (Int.toNat idx_11) x_27) (w64 (a_1 + (w64 (bitK .u64 (BitVec.ofInt 64 r_19 &&& BitVec.ofInt 64 (IntKind.wrap .u64 (r_6 - 1)))))))).bind fun x_30 =>
     (M113 a_1 b_2 r_6 n_14) ((w64 (idx_11 + 1))) ((List.set (List.set l_12 (Int.toNat idx_11) x_27) (Int.toNat (w64 (a_1 + (w64 (bitK .u64 (BitVec.ofInt 64 r_19 &&& BitVec.ofInt 64 (IntKind.wrap .u64 (r_6 - 1)))))))) x_28)) b_20
    else
    some l_12
def M114 (a_1 : Int) (b_2 : Int) (l_3 : List TSpan) : Option (List TSpan) :=
 bif decide ((w64 (b_2 - a_1)) ≥ 8) then
  (M111 ((w64 (b_2 - a_1)))).bind fun r_6 =>
  (M113 a_1 b_2 r_6 (((w64 ((w64 (a_1 + (w64 ((w64 (Int.tdiv (w64 (b_2 - a_1)) 4)) * 2)))) + 1)) + 1 - (w64 ((w64 (a_1 + (w64 ((w64 (Int.tdiv (w64 (b_2 - a_1)) 4)) * 2)))) - 1)) : Int).toNat + 1) ((w64 ((w64 (a_1 + (w64 ((w64 (Int.tdiv (w64 (b_2 - a_1)) 4)) * 2)))) - 1))) l_3 ((IntKind.wrap .u64 (w64 (b_2 - a_1))))).bind fun l_15 =>
  some l_15
 else
 some l_3
def M115 (a_17 : Int) (b_18 : Int) (wasBalanced_20 : Bool) (wasPartitioned_21 : Bool) (nx_24 : Int → Int → Int → Bool → Bool → (List TSpan) → Option (List TSpan)) (limit_34 : Int) (pivot_44 : Int) (rc_9046 : Int → Int → Int → (List TSpan) → Option (List TSpan)) (l_55 : List TSpan) : Option (List TSpan) :=
 Option.bind (
  bif decide (a_17 > 0) then
   (idx l_55 (w64 (a_17 - 1))).bind fun x_59 =>
   (idx l_55 pivot_44).bind fun x_60 =>
   (M77 x_59 x_60).bind fun r_61 =>
   some (!(decide (r_61 < 0)))
  else
  some false
 ) fun v_56 =>
 bif v_56 then
  (M104 a_17 b_18 pivot_44 l_55).bind fun (r_64, l_65) =>
  (lenIs l_65 l_55).bind fun _ =>
  nx_24 r_64 b_18 limit_34 wasBalanced_20 wasPartitioned_21 l_65
 else
 (M110 a_17 b_18 pivot_44 l_55).bind fun (r_68, r_69, l_70) =>
 (lenIs l_70 l_55).bind fun _ =>
 bif decide ((w64 (r_68 - a_17)) < (w64 (b_18 - r_68))) then
  (rc_9046 a_17 r_68 limit_34 l_70).bind fun l_74 =>
  (lenIs l_74 l_70).bind fun _ =>
  nx_24 ((w64 (r_68 + 1))) b_18 limit_34 ((decide ((w64 (r_68 - a_17)) ≥ (w64 (Int.tdiv (w64 (b_18 - a_17)) 8))))) r_69 l_74
 else
 (rc_9046 ((w64 (r_68 + 1))) b_18 limit_34 l_70).bind fun l_77 =>
 (lenIs l_77 l_70).bind fun _ =>
 nx_24 a_17 r_68 limit_34 ((decide ((w64 (b_18 - r_68)) ≥ (w64 (Int.tdiv (w64 (b_18 - a_17)) 8))))) r_69 l_77
def M116 (rc_9046 : Int → Int → Int → (List TSpan) → Option (List TSpan)) : Nat → Int → Int → Int → Bool → Bool → (List TSpan) → Option (List TSpan)
  | 0, _, _, _, _, _, _ => none
  | n_23 + 1, a_17, b_18, limit_19, wasBalanced_20, wasPartitioned_21, l_22 =>
    bif decide ((w64 (b_18 - a_17)) ≤ 12) then
     (M80 a_17 b_18 l_22).bind fun l_27 =>
     (lenIs l_27 l_22).bind fun _ =>
     some l_27
    else
    bif limit_19 == 0 then
     (M86 a_17 b_18 l_22).bind fun l_31 =>
     (lenIs l_31 l_22).bind fun _ =>
     some l_31
    else
    Option.bind (
     bif !wasBalanced_20 then
      (M114 a_17 b_18 l_22).bind fun l_38 =>
      (lenIs l_38 l_22).bind fun _ =>
      some ((w64 (limit_19 - 1)), l_38)
     else
     some (limit_19, l_22)
    ) fun (limit_34, l_35) =>
    (M90 l_35 a_17 b_18).bind fun (r_41, r_42) =>
    Option.bind (
     bif r_42 == 2 then
      (M92 a_17 b_18 l_35).bind fun l_49 =>
      (lenIs l_49 l_35).bind fun _ =>
      some ((w64 ((w64 (b_18 - 1)) - (w64 (r_41 - a_17)))), 1, l_49)
     else
     some (r_41, r_42, l_35)
    ) fun (pivot_44, hint_45, l_46) =>
    bif wasBalanced_20 && (wasPartitioned_21 && (hint_45 == 1)) then
     (M100 a_17 b_18 l_46).bind fun (r_81, l_82) =>
     (lenIs l_82 l_46).bind fun _ =>
     bif r_81 then some l_82 else
     M115 a_17 b_18 wasBalanced_20 wasPartitioned_21 (M116 rc_9046 n_23) limit_34 pivot_44 rc_9046 l_82
    else
    M115 a_17 b_18 wasBalanced_20 wasPartitioned_21 (M116 rc_9046 n_23) limit_34 pivot_44 rc_9046 l_46
def M117 (rc_9046 : Int → Int → Int → (List TSpan) → Option (List TSpan)) (a_1 : Int) (b_2 : Int) (limit_3 : Int) (l_4 : List TSpan) : Option (List TSpan) :=
 M116 rc_9046 (List.length l_4 + 1) a_1 b_2 limit_3 true true l_4
def M118 : Nat → Int → Int → Int → (List TSpan) → Option (List TSpan)
  | 0 => fun _ _ _ _ => none
  | n + 1 => M117 (M118 n)
def M119 (l_1 : List TSpan) : Option (List TSpan) :=
 (M76 ((IntKind.wrap .u64 (((l_1).length : Int))))).bind fun r_3 =>
 (M118 (List.length l_1 + 1) 0 ((((l_1).length : Int))) r_3 l_1).bind fun l_5 =>
 (lenIs l_5 l_1).bind fun _ =>
 some l_5
def M120 (y : TSpan) (s : List TSpan) : Option (List TSpan) :=
  match y, s with
  | y_5, l_7 =>
    (app 16 l_7 (([y_5] : List TSpan))).bind fun l_9 =>
    some l_9
def M121 (c_1 : List TSpan) : Option (List TSpan) :=
 (M75 c_1).bind fun l_3 =>
 (foldO M120 l_3 ((([] : List TSpan)))).bind fun l_10 =>
 (M119 l_10).bind fun l_11 =>
 (lenIs l_11 l_10).bind fun _ =>
 some l_11
def M122 (a_1 : TSpan) (b_2 : TSpan) : Option (Bool) :=
 bif (a_1.Lo == b_2.Lo) && ((a_1.Hi == b_2.Hi) && true) then some true else
 some (decide (b_2.Lo ≤ (w64 (a_1.Hi + 1))))
def M123 (a_1 : TSpan) (b_2 : TSpan) : Option (TSpan) :=
 some ({ Lo := a_1.Lo, Hi := (maxG a_1.Hi b_2.Hi) } : TSpan)
def M124 (l_1 : List TSpan) : Nat → Int → (List TSpan) → Option (List TSpan)
  | 0, _, _ => none
  | n_7 + 1, v_5, l_6 =>
    bif decide (v_5 < (((l_1).length : Int))) then
     (idx l_1 v_5).bind fun x_12 =>
     Option.bind (
      bif decide ((w64 ((((l_6).length : Int)) - 1)) ≥ 0) then
       (idx l_6 (w64 ((((l_6).length : Int)) - 1))).bind fun x_16 =>
       (M122 x_16 x_12).bind fun r_17 =>
       some r_17
      else
      some false
     ) fun v_13 =>
     bif v_13 then
      (idx l_6 (w64 ((((l_6).length : Int)) - 1))).bind fun x_20 =>
      (M123 x_20 x_12).bind fun r_21 =>
      (idx l_6 (w64 ((((l_6).length : Int)) - 1))).bind fun x_23 =>
      (M124 l_1 n_7) ((w64 (v_5 + 1))) ((List.set l_6 (Int.toNat (w64 ((((l_6).length : Int)) - 1))) r_21))
     else
     (app 16 l_6 (([x_12] : List TSpan))).bind fun l_24 =>
     (M124 l_1 n_7) ((w64 (v_5 + 1))) l_24
    else
    some l_6
def M125 (l_1 : List TSpan) : Option (List TSpan) :=
 (M124 l_1 (((((l_1).length : Int)) - 0 : Int).toNat + 1) 0 ((([] : List TSpan)))).bind fun l_8 =>
 some l_8
def M126 (l_1 : List TSpan) : Option (List TSpan) :=
 (M72 l_1).bind fun c_3 =>
 (M121 c_3).bind fun r_5 =>
 (M125 r_5).bind fun r_7 =>
 some r_7
def M127 (l_1 : List TSpan) : Option (List TSpan × Int) :=
 (M71 ((([l_1] : List (List TSpan))))).bind fun r_4 =>
 bif r_4 != 0 then some ((([] : List TSpan)), r_4) else
 (M126 l_1).bind fun r_7 =>
 some (r_7, 0)
def M128 (f_1 : TField) (x_19 : List TOutcome) : Nat → Int → Bool → (List TSpan) → Option (Bool × List TSpan)
  | 0, _, _, _ => none
  | n_29 + 1, v_26, v_27, l_28 =>
    bif decide (v_26 < (((x_19).length : Int))) then
     Option.bind (
      (idx x_19 v_26).bind fun x_38 =>
      (M62 f_1.Clocks x_38).bind fun (r_39, r_40) =>
      bif r_40 == 0 then
       (app 16 l_28 (([r_39] : List TSpan))).bind fun l_43 =>
       bif v_27 then some (true, l_43) else
       some (x_38.Out, l_43)
      else
      bif v_27 then some (true, l_28) else
      some (x_38.Out, l_28)
     ) fun (v_35, l_36) =>
     (M128 f_1 x_19 n_29) ((w64 (v_26 + 1))) v_35 l_36
    else
    some (v_27, l_28)
def M129 (f_1 : TField) (x_6 : TRunner) : Nat → Int → Bool → (List TSpan) → Option (Bool × List TSpan)
  | 0, _, _, _ => none
  | n_13 + 1, v_10, v_11, l_12 =>
    bif decide (v_10 < (((x_6.Worlds).length : Int))) then
     (idx x_6.Worlds v_10).bind fun x_19 =>
     (M60 f_1 v_10).bind fun r_20 =>
     bif !r_20 then (M129 f_1 x_6 n_13) ((w64 (v_10 + 1))) v_11 l_12 else
     (M128 f_1 x_19 (((((x_19).length : Int)) - 0 : Int).toNat + 1) 0 v_11 l_12).bind fun (v_30, l_31) =>
     (M129 f_1 x_6 n_13) ((w64 (v_10 + 1))) v_30 l_31
    else
    some (v_11, l_12)
def M130 (f_1 : TField) (runner_2 : Int) : Option (List TSpan × Bool × Int) :=
 (idx f_1.Runners runner_2).bind fun x_6 =>
 (M129 f_1 x_6 (((((x_6.Worlds).length : Int)) - 0 : Int).toNat + 1) 0 false ((([] : List TSpan)))).bind fun (v_14, l_15) =>
 (M127 l_15).bind fun (r_48, r_49) =>
 some (r_48, v_14, r_49)
def M131 (a_1 : List TSpan) (b_2 : List TSpan) : Option (List TSpan × List TSpan) :=
 some (a_1, b_2)
def M132 (c_2 : List TSpan) (x_9 : TSpan) (k_14 : Unit → Option (List TSpan)) : Nat → Int → Option (List TSpan)
  | 0, _ => none
  | n_12 + 1, v_11 =>
    bif decide (v_11 < (((c_2).length : Int))) then
     (idx c_2 v_11).bind fun x_16 =>
     Option.bind (
      (M132 c_2 x_9 k_14 n_12) ((w64 (v_11 + 1)))
     ) fun l => some (({ Lo := (w64 (x_9.Lo + x_16.Lo)), Hi := (w64 (x_9.Hi + x_16.Hi)) } : TSpan) :: l)
    else
    k_14 ()
def M133 (v_4 : Int) (nx_6 : Int → Option (List TSpan)) (_ : Unit) : Option (List TSpan) :=
 nx_6 ((w64 (v_4 + 1)))
def M134 (c_1 : List TSpan) (c_2 : List TSpan) (k_7 : Unit → Option (List TSpan)) : Nat → Int → Option (List TSpan)
  | 0, _ => none
  | n_5 + 1, v_4 =>
    bif decide (v_4 < (((c_1).length : Int))) then
     (idx c_1 v_4).bind fun x_9 =>
     M132 c_2 x_9 (M133 v_4 (M134 c_1 c_2 k_7 n_5)) (((((c_2).length : Int)) - 0 : Int).toNat + 1) 0
    else
    k_7 ()
def M135 (_ : Unit) : Option (List TSpan) :=
 some []
def M136 (c_1 : List TSpan) (c_2 : List TSpan) : Option (List TSpan) :=
 M134 c_1 c_2 M135 (((((c_1).length : Int)) - 0 : Int).toNat + 1) 0
def M137 (l_1 : List TSpan) : Option (List TSpan × Int) :=
 bif decide ((((l_1).length : Int)) > 4096) then some ((([] : List TSpan)), 2) else
 some (l_1, 0)
def M138 (y : TSpan) (s : Int × List TSpan) : Option ((Int × List TSpan) ⊕ (Int)) :=
  match y, s with
  | y_18, (v_21, l_22) =>
    (M63 y_18).bind fun r_25 =>
    bif r_25 != 0 then some (.inr r_25) else
    (app 16 l_22 (([y_18] : List TSpan))).bind fun l_28 =>
    some (.inl (r_25, l_28))
def M139 (a_1 : List TSpan) (b_2 : List TSpan) : Option (List TSpan × Int) :=
 (M71 ((([a_1, b_2] : List (List TSpan))))).bind fun r_5 =>
 bif r_5 != 0 then some ((([] : List TSpan)), r_5) else
 (M126 a_1).bind fun r_8 =>
 (M126 b_2).bind fun r_10 =>
 bif decide ((w64 ((((r_8).length : Int)) * (((r_10).length : Int)))) > 65536) then some ((([] : List TSpan)), 2) else
 (M131 r_8 r_10).bind fun (c_13, c_14) =>
 (M136 c_13 c_14).bind fun l_16 =>
 (foldE M138 l_16 (r_5, (([] : List TSpan)))).bind fun q => match q with
 | .inl (v_29, l_30) =>
  (M126 l_30).bind fun r_31 =>
  (M137 r_31).bind fun (r_33, r_34) =>
  some (r_33, r_34)
 | .inr v_37 =>
  some ((([] : List TSpan)), v_37)
def M140 (f_1 : List TField) (bib_2 : Int) (k_15 : Bool → (List (List TSpan)) → Option (TTotal × Int)) : Nat → Int → Bool → (List (List TSpan)) → Option (TTotal × Int)
  | 0, _, _, _ => none
  | n_11 + 1, v_8, v_9, l_10 =>
    bif decide (v_8 < (((f_1).length : Int))) then
     (idx f_1 v_8).bind fun x_17 =>
     (M54 x_17 bib_2).bind fun (r_18, r_19) =>
     bif !r_19 then some (({ Bib := bib_2, Sums := (([] : List TSpan)), Out := true } : TTotal), 0) else
     (M130 x_17 r_18).bind fun (r_22, r_23, r_24) =>
     bif r_24 != 0 then some (({ Bib := 0, Sums := (([] : List TSpan)), Out := false } : TTotal), r_24) else
     bif (((r_22).length : Int)) == 0 then some (({ Bib := bib_2, Sums := (([] : List TSpan)), Out := true } : TTotal), 0) else
     (app 24 l_10 (([r_22] : List (List TSpan)))).bind fun l_28 =>
     bif v_9 then (M140 f_1 bib_2 k_15 n_11) ((w64 (v_8 + 1))) true l_28 else
     (M140 f_1 bib_2 k_15 n_11) ((w64 (v_8 + 1))) r_23 l_28
    else
    k_15 v_9 l_10
def M141 (l_31 : List (List TSpan)) (k_42 : Int → (List TSpan) → Option (TTotal × Int)) : Nat → Int → Int → (List TSpan) → Option (TTotal × Int)
  | 0, _, _, _ => none
  | n_38 + 1, e_35, v_36, v_37 =>
    bif decide (v_36 < (((l_31).length : Int))) then
     (idx l_31 v_36).bind fun x_44 =>
     (M139 v_37 x_44).bind fun (r_45, r_46) =>
     bif r_46 != 0 then some (({ Bib := 0, Sums := (([] : List TSpan)), Out := false } : TTotal), r_46) else
     (M141 l_31 k_42 n_38) r_46 ((w64 (v_36 + 1))) r_45
    else
    k_42 e_35 v_37
def M142 (bib_2 : Int) (v_12 : Bool) (e_39 : Int) (v_40 : List TSpan) : Option (TTotal × Int) :=
 some (({ Bib := bib_2, Sums := v_40, Out := v_12 } : TTotal), 0)
def M143 (bib_2 : Int) (v_12 : Bool) (l_13 : List (List TSpan)) : Option (TTotal × Int) :=
 (idx l_13 0).bind fun x_30 =>
 (slcFrom l_13 1).bind fun l_31 =>
 M141 l_31 (M142 bib_2 v_12) (((((l_31).length : Int)) - 0 : Int).toNat + 1) 0 0 x_30
def M144 (f_1 : List TField) (bib_2 : Int) : Option (TTotal × Int) :=
 M140 f_1 bib_2 (M143 bib_2) (((((f_1).length : Int)) - 0 : Int).toNat + 1) 0 false ((([] : List (List TSpan))))
def M145 (f_1 : List TField) (bib_2 : Int) : Option (TTotal × Int) :=
 (M49 f_1).bind fun r_5 =>
 bif r_5 != 0 then some (({ Bib := 0, Sums := (([] : List TSpan)), Out := false } : TTotal), r_5) else
 (idx f_1 0).bind fun x_8 =>
 (M54 x_8 bib_2).bind fun (r_9, r_10) =>
 bif !r_10 then some (({ Bib := 0, Sums := (([] : List TSpan)), Out := false } : TTotal), 250) else
 (M144 f_1 bib_2).bind fun (r_13, r_14) =>
 some (r_13, r_14)
def M146 (x_1 : Int) (y_2 : Int) : Option (Bool) :=
 (M3 x_1).bind fun r_4 =>
 bif r_4 then
  (M3 y_2).bind fun r_7 =>
  bif !r_7 then some true else
  some (decide (x_1 < y_2))
 else
 some (decide (x_1 < y_2))
def M147 (a_1 : Int) : Nat → Int → (List Int) → Option (List Int)
  | 0, _, _ => none
  | n_18 + 1, j_16, l_17 =>
    bif decide (j_16 > a_1) then
     (idx l_17 j_16).bind fun x_23 =>
     (idx l_17 (w64 (j_16 - 1))).bind fun x_24 =>
     (M146 x_23 x_24).bind fun r_25 =>
     bif r_25 then
      (idx l_17 (w64 (j_16 - 1))).bind fun x_28 =>
      (idx l_17 j_16).bind fun x_29 =>
      (idx l_17 j_16).bind fun x_30 =>
      (idx (List.set l_17 (Int.toNat j_16) x_28) (w64 (j_16 - 1))).bind fun x_31 =>
      (M147 a_1 n_18) ((w64 (j_16 - 1))) ((List.set (List.set l_17 (Int.toNat j_16) x_28) (Int.toNat (w64 (j_16 - 1))) x_29))
     else
     some l_17
    else
    some l_17
def M148 (a_1 : Int) (b_2 : Int) : Nat → Int → (List Int) → Option (List Int)
  | 0, _, _ => none
  | n_9 + 1, i_7, l_8 =>
    bif decide (i_7 < b_2) then
     (M147 a_1 ((i_7 - a_1 : Int).toNat + 1) i_7 l_8).bind fun l_19 =>
     (M148 a_1 b_2 n_9) ((w64 (i_7 + 1))) l_19
    else
    some l_8
def M149 (a_1 : Int) (b_2 : Int) (l_3 : List Int) : Option (List Int) :=
 (M148 a_1 b_2 ((b_2 - (w64 (a_1 + 1)) : Int).toNat + 1) ((w64 (a_1 + 1))) l_3).bind fun l_10 =>
 some l_10
def M150 (hi_2 : Int) (first_3 : Int) (k_13 : (List Int) → Option (List Int)) : Nat → Int → (List Int) → Option (List Int)
  | 0, _, _ => none
  | n_10 + 1, root_8, l_9 =>
    bif decide ((w64 ((w64 (2 * root_8)) + 1)) ≥ hi_2) then k_13 l_9 else
    bif decide ((w64 ((w64 ((w64 (2 * root_8)) + 1)) + 1)) < hi_2) then
     (idx l_9 (w64 (first_3 + (w64 ((w64 (2 * root_8)) + 1))))).bind fun x_16 =>
     (idx l_9 (w64 ((w64 (first_3 + (w64 ((w64 (2 * root_8)) + 1)))) + 1))).bind fun x_17 =>
     (M146 x_16 x_17).bind fun r_18 =>
     bif r_18 then
      (idx l_9 (w64 (first_3 + root_8))).bind fun x_21 =>
      (idx l_9 (w64 (first_3 + (w64 ((w64 ((w64 (2 * root_8)) + 1)) + 1))))).bind fun x_22 =>
      (M146 x_21 x_22).bind fun r_23 =>
      bif !r_23 then some l_9 else
      (idx l_9 (w64 (first_3 + (w64 ((w64 ((w64 (2 * root_8)) + 1)) + 1))))).bind fun x_26 =>
      (idx l_9 (w64 (first_3 + root_8))).bind fun x_27 =>
      (idx l_9 (w64 (first_3 + root_8))).bind fun x_28 =>
      (idx (List.set l_9 (Int.toNat (w64 (first_3 + root_8))) x_26) (w64 (first_3 + (w64 ((w64 ((w64 (2 * root_8)) + 1)) + 1))))).bind fun x_29 =>
      (M150 hi_2 first_3 k_13 n_10) ((w64 ((w64 ((w64 (2 * root_8)) + 1)) + 1))) ((List.set (List.set l_9 (Int.toNat (w64 (first_3 + root_8))) x_26) (Int.toNat (w64 (first_3 + (w64 ((w64 ((w64 (2 * root_8)) + 1)) + 1))))) x_27))
     else
     (idx l_9 (w64 (first_3 + root_8))).bind fun x_30 =>
     (idx l_9 (w64 (first_3 + (w64 ((w64 (2 * root_8)) + 1))))).bind fun x_31 =>
     (M146 x_30 x_31).bind fun r_32 =>
     bif !r_32 then some l_9 else
     (idx l_9 (w64 (first_3 + (w64 ((w64 (2 * root_8)) + 1))))).bind fun x_35 =>
     (idx l_9 (w64 (first_3 + root_8))).bind fun x_36 =>
     (idx l_9 (w64 (first_3 + root_8))).bind fun x_37 =>
     (idx (List.set l_9 (Int.toNat (w64 (first_3 + root_8))) x_35) (w64 (first_3 + (w64 ((w64 (2 * root_8)) + 1))))).bind fun x_38 =>
     (M150 hi_2 first_3 k_13 n_10) ((w64 ((w64 (2 * root_8)) + 1))) ((List.set (List.set l_9 (Int.toNat (w64 (first_3 + root_8))) x_35) (Int.toNat (w64 (first_3 + (w64 ((w64 (2 * root_8)) + 1))))) x_36))
    else
    (idx l_9 (w64 (first_3 + root_8))).bind fun x_39 =>
    (idx l_9 (w64 (first_3 + (w64 ((w64 (2 * root_8)) + 1))))).bind fun x_40 =>
    (M146 x_39 x_40).bind fun r_41 =>
    bif !r_41 then some l_9 else
    (idx l_9 (w64 (first_3 + (w64 ((w64 (2 * root_8)) + 1))))).bind fun x_44 =>
    (idx l_9 (w64 (first_3 + root_8))).bind fun x_45 =>
    (idx l_9 (w64 (first_3 + root_8))).bind fun x_46 =>
    (idx (List.set l_9 (Int.toNat (w64 (first_3 + root_8))) x_44) (w64 (first_3 + (w64 ((w64 (2 * root_8)) + 1))))).bind fun x_47 =>
    (M150 hi_2 first_3 k_13 n_10) ((w64 ((w64 (2 * root_8)) + 1))) ((List.set (List.set l_9 (Int.toNat (w64 (first_3 + root_8))) x_44) (Int.toNat (w64 (first_3 + (w64 ((w64 (2 * root_8)) + 1))))) x_45))
def M151 (l_11 : List Int) : Option (List Int) :=
 some l_11
def M152 (lo_1 : Int) (hi_2 : Int) (first_3 : Int) (l_4 : List Int) : Option (List Int) :=
 M150 hi_2 first_3 M151 (List.length l_4 + 1) lo_1 l_4
def M153 (a_1 : Int) (b_2 : Int) : Nat → Int → (List Int) → Option (List Int)
  | 0, _, _ => none
  | n_9 + 1, i_7, l_8 =>
    bif decide (i_7 ≥ 0) then
     (M152 i_7 ((w64 (b_2 - a_1))) a_1 l_8).bind fun l_14 =>
     (lenIs l_14 l_8).bind fun _ =>
     (M153 a_1 b_2 n_9) ((w64 (i_7 - 1))) l_14
    else
    some l_8
def M154 (a_1 : Int) : Nat → Int → (List Int) → Option (List Int)
  | 0, _, _ => none
  | n_22 + 1, i_20, l_21 =>
    bif decide (i_20 ≥ 0) then
     (idx l_21 (w64 (a_1 + i_20))).bind fun x_27 =>
     (idx l_21 a_1).bind fun x_28 =>
     (idx l_21 a_1).bind fun x_29 =>
     (idx (List.set l_21 (Int.toNat a_1) x_27) (w64 (a_1 + i_20))).bind fun x_30 =>
     (M152 0 i_20 a_1 ((List.set (List.set l_21 (Int.toNat a_1) x_27) (Int.toNat (w64 (a_1 + i_20))) x_28))).bind fun l_31 =>
     (lenIs l_31 (List.set (List.set l_21 (Int.toNat a_1) x_27) (Int.toNat (w64 (a_1 + i_20))) x_28)).bind fun _ =>
     (M154 a_1 n_22) ((w64 (i_20 - 1))) l_31
    else
    some l_21
def M155 (a_1 : Int) (b_2 : Int) (l_3 : List Int) : Option (List Int) :=
 (M153 a_1 b_2 (((w64 (Int.tdiv (w64 ((w64 (b_2 - a_1)) - 1)) 2)) + 1 - 0 : Int).toNat + 1) ((w64 (Int.tdiv (w64 ((w64 (b_2 - a_1)) - 1)) 2))) l_3).bind fun l_10 =>
 (M154 a_1 (((w64 ((w64 (b_2 - a_1)) - 1)) + 1 - 0 : Int).toNat + 1) ((w64 ((w64 (b_2 - a_1)) - 1))) l_10).bind fun l_23 =>
 some l_23
def M156 (data_1 : List Int) (a_2 : Int) (b_3 : Int) (v_4 : Int) : Option (Int × Int × Int) :=
 (idx data_1 b_3).bind fun x_8 =>
 (idx data_1 a_2).bind fun x_9 =>
 (M146 x_8 x_9).bind fun r_10 =>
 bif r_10 then some (b_3, a_2, (w64 (v_4 + 1))) else
 some (a_2, b_3, v_4)
def M157 (data_1 : List Int) (a_2 : Int) (b_3 : Int) (c_4 : Int) (v_5 : Int) : Option (Int × Int) :=
 (M156 data_1 a_2 b_3 v_5).bind fun (r_8, r_9, b_10) =>
 (M156 data_1 r_9 c_4 b_10).bind fun (r_12, r_13, b_14) =>
 (M156 data_1 r_8 r_12 b_14).bind fun (r_16, r_17, b_18) =>
 some (r_17, b_18)
def M158 (data_1 : List Int) (a_2 : Int) (v_3 : Int) : Option (Int × Int) :=
 (M157 data_1 ((w64 (a_2 - 1))) a_2 ((w64 (a_2 + 1))) v_3).bind fun (r_6, b_7) =>
 some (r_6, b_7)
def M159 (data_1 : List Int) (a_2 : Int) (b_3 : Int) : Option (Int × Int) :=
 bif decide ((w64 (b_3 - a_2)) ≥ 8) then
  bif decide ((w64 (b_3 - a_2)) ≥ 50) then
   (M158 data_1 ((w64 (a_2 + (w64 ((w64 (Int.tdiv (w64 (b_3 - a_2)) 4)) * 1))))) 0).bind fun (r_8, b_9) =>
   (M158 data_1 ((w64 (a_2 + (w64 ((w64 (Int.tdiv (w64 (b_3 - a_2)) 4)) * 2))))) b_9).bind fun (r_11, b_12) =>
   (M158 data_1 ((w64 (a_2 + (w64 ((w64 (Int.tdiv (w64 (b_3 - a_2)) 4)) * 3))))) b_12).bind fun (r_14, b_15) =>
   (M157 data_1 r_8 r_11 r_14 b_15).bind fun (r_17, b_18) =>
   bif b_18 == 0 then some (r_17, 1) else
   bif b_18 == 12 then some (r_17, 2) else
   some (r_17, 0)
  else
  (M157 data_1 ((w64 (a_2 + (w64 ((w64 (Int.tdiv (w64 (b_3 - a_2)) 4)) * 1))))) ((w64 (a_2 + (w64 ((w64 (Int.tdiv (w64 (b_3 - a_2)) 4)) * 2))))) ((w64 (a_2 + (w64 ((w64 (Int.tdiv (w64 (b_3 - a_2)) 4)) * 3))))) 0).bind fun (r_22, b_23) =>
  bif b_23 == 0 then some (r_22, 1) else
  bif b_23 == 12 then some (r_22, 2) else
  some (r_22, 0)
 else
 some ((w64 (a_2 + (w64 ((w64 (Int.tdiv (w64 (b_3 - a_2)) 4)) * 2)))), 1)
def M160 : Nat → Int → Int → (List Int) → Option (List Int)
  | 0, _, _, _ => none
  | n_11 + 1, i_8, j_9, l_10 =>
    bif decide (i_8 < j_9) then
     (idx l_10 j_9).bind fun x_16 =>
     (idx l_10 i_8).bind fun x_17 =>
     (idx l_10 i_8).bind fun x_18 =>
     (idx (List.set l_10 (Int.toNat i_8) x_16) j_9).bind fun x_19 =>
     (M160 n_11) ((w64 (i_8 + 1))) ((w64 (j_9 - 1))) ((List.set (List.set l_10 (Int.toNat i_8) x_16) (Int.toNat j_9) x_17))
    else
    some l_10
def M161 (a_1 : Int) (b_2 : Int) (l_3 : List Int) : Option (List Int) :=
 (M160 (((w64 (b_2 - 1)) - a_1 : Int).toNat + 1) a_1 ((w64 (b_2 - 1))) l_3).bind fun l_12 =>
 some l_12
def M162 (j_10 : Int) (nx_14 : Int → Int → (List Int) → Option (Bool × List Int)) (i_17 : Int) (l_18 : List Int) : Option (Bool × List Int) :=
 nx_14 i_17 ((w64 (j_10 + 1))) l_18
def M163 (b_2 : Int) (l_11 : List Int) : Nat → Int → Option (Int)
  | 0, _ => none
  | n_21 + 1, i_20 =>
    bif decide (i_20 < b_2) then
     (idx l_11 i_20).bind fun x_26 =>
     (idx l_11 (w64 (i_20 - 1))).bind fun x_27 =>
     (M146 x_26 x_27).bind fun r_28 =>
     bif !r_28 then (M163 b_2 l_11 n_21) ((w64 (i_20 + 1))) else
     some i_20
    else
    some i_20
def M164 : Nat → Int → (List Int) → Option (List Int)
  | 0, _, _ => none
  | n_43 + 1, j_41, l_42 =>
    bif decide (j_41 ≥ 1) then
     (idx l_42 j_41).bind fun x_48 =>
     (idx l_42 (w64 (j_41 - 1))).bind fun x_49 =>
     (M146 x_48 x_49).bind fun r_50 =>
     bif !r_50 then some l_42 else
     (idx l_42 (w64 (j_41 - 1))).bind fun x_53 =>
     (idx l_42 j_41).bind fun x_54 =>
     (idx l_42 j_41).bind fun x_55 =>
     (idx (List.set l_42 (Int.toNat j_41) x_53) (w64 (j_41 - 1))).bind fun x_56 =>
     (M164 n_43) ((w64 (j_41 - 1))) ((List.set (List.set l_42 (Int.toNat j_41) x_53) (Int.toNat (w64 (j_41 - 1))) x_54))
    else
    some l_42
def M165 (b_2 : Int) : Nat → Int → (List Int) → Option (List Int)
  | 0, _, _ => none
  | n_63 + 1, j_61, l_62 =>
    bif decide (j_61 < b_2) then
     (idx l_62 j_61).bind fun x_68 =>
     (idx l_62 (w64 (j_61 - 1))).bind fun x_69 =>
     (M146 x_68 x_69).bind fun r_70 =>
     bif !r_70 then some l_62 else
     (idx l_62 (w64 (j_61 - 1))).bind fun x_73 =>
     (idx l_62 j_61).bind fun x_74 =>
     (idx l_62 j_61).bind fun x_75 =>
     (idx (List.set l_62 (Int.toNat j_61) x_73) (w64 (j_61 - 1))).bind fun x_76 =>
     (M165 b_2 n_63) ((w64 (j_61 + 1))) ((List.set (List.set l_62 (Int.toNat j_61) x_73) (Int.toNat (w64 (j_61 - 1))) x_74))
    else
    some l_62
def M166 (b_2 : Int) : Nat → Int → (List Int) → Option (List Int)
  | 0, _, _ => none
  | n_83 + 1, j_81, l_82 =>
    bif decide (j_81 < b_2) then
     (idx l_82 j_81).bind fun x_88 =>
     (idx l_82 (w64 (j_81 - 1))).bind fun x_89 =>
     (M146 x_88 x_89).bind fun r_90 =>
     bif !r_90 then some l_82 else
     (idx l_82 (w64 (j_81 - 1))).bind fun x_93 =>
     (idx l_82 j_81).bind fun x_94 =>
     (idx l_82 j_81).bind fun x_95 =>
     (idx (List.set l_82 (Int.toNat j_81) x_93) (w64 (j_81 - 1))).bind fun x_96 =>
     (M166 b_2 n_83) ((w64 (j_81 + 1))) ((List.set (List.set l_82 (Int.toNat j_81) x_93) (Int.toNat (w64 (j_81 - 1))) x_94))
    else
    some l_82
def M167 (a_1 : Int) (b_2 : Int) (k_15 : (List Int) → Option (Bool × List Int)) : Nat → Int → Int → (List Int) → Option (Bool × List Int)
  | 0, _, _, _ => none
  | n_12 + 1, i_9, j_10, l_11 =>
    bif decide (j_10 < 5) then
     (M163 b_2 l_11 ((b_2 - i_9 : Int).toNat + 1) i_9).bind fun i_22 =>
     bif i_22 == b_2 then some (true, l_11) else
     bif decide ((w64 (b_2 - a_1)) < 50) then some (false, l_11) else
     (idx l_11 (w64 (i_22 - 1))).bind fun x_34 =>
     (idx l_11 i_22).bind fun x_35 =>
     (idx l_11 i_22).bind fun x_36 =>
     (idx (List.set l_11 (Int.toNat i_22) x_34) (w64 (i_22 - 1))).bind fun x_37 =>
     bif decide ((w64 (i_22 - a_1)) ≥ 2) then
      (M164 (((w64 (i_22 - 1)) + 1 - 1 : Int).toNat + 1) ((w64 (i_22 - 1))) ((List.set (List.set l_11 (Int.toNat i_22) x_34) (Int.toNat (w64 (i_22 - 1))) x_35))).bind fun l_44 =>
      bif decide ((w64 (b_2 - i_22)) ≥ 2) then
       (M165 b_2 ((b_2 - (w64 (i_22 + 1)) : Int).toNat + 1) ((w64 (i_22 + 1))) l_44).bind fun l_64 =>
       M162 j_10 (M167 a_1 b_2 k_15 n_12) i_22 l_64
      else
      M162 j_10 (M167 a_1 b_2 k_15 n_12) i_22 l_44
     else
     bif decide ((w64 (b_2 - i_22)) ≥ 2) then
      (M166 b_2 ((b_2 - (w64 (i_22 + 1)) : Int).toNat + 1) ((w64 (i_22 + 1))) ((List.set (List.set l_11 (Int.toNat i_22) x_34) (Int.toNat (w64 (i_22 - 1))) x_35))).bind fun l_84 =>
      M162 j_10 (M167 a_1 b_2 k_15 n_12) i_22 l_84
     else
     M162 j_10 (M167 a_1 b_2 k_15 n_12) i_22 ((List.set (List.set l_11 (Int.toNat i_22) x_34) (Int.toNat (w64 (i_22 - 1))) x_35))
    else
    k_15 l_11
def M168 (l_13 : List Int) : Option (Bool × List Int) :=
 some (false, l_13)
def M169 (a_1 : Int) (b_2 : Int) (l_3 : List Int) : Option (Bool × List Int) :=
 M167 a_1 b_2 M168 ((5 - 0 : Int).toNat + 1) ((w64 (a_1 + 1))) 0 l_3
def M170 (a_1 : Int) (j_15 : Int) (l_16 : List Int) : Nat → Int → Option (Int)
  | 0, _ => none
  | n_24 + 1, i_23 =>
    bif decide (i_23 ≤ j_15) then
     (idx l_16 a_1).bind fun x_29 =>
     (idx l_16 i_23).bind fun x_30 =>
     (M146 x_29 x_30).bind fun r_31 =>
     bif !r_31 then (M170 a_1 j_15 l_16 n_24) ((w64 (i_23 + 1))) else
     some i_23
    else
    some i_23
def M171 (a_1 : Int) (l_16 : List Int) (i_25 : Int) : Nat → Int → Option (Int)
  | 0, _ => none
  | n_37 + 1, j_36 =>
    bif decide (i_25 ≤ j_36) then
     (idx l_16 a_1).bind fun x_42 =>
     (idx l_16 j_36).bind fun x_43 =>
     (M146 x_42 x_43).bind fun r_44 =>
     bif r_44 then (M171 a_1 l_16 i_25 n_37) ((w64 (j_36 - 1))) else
     some j_36
    else
    some j_36
def M172 (a_1 : Int) : Nat → Int → Int → (List Int) → Option (Int × List Int)
  | 0, _, _, _ => none
  | n_17 + 1, i_14, j_15, l_16 =>
    (M170 a_1 j_15 l_16 ((j_15 + 1 - i_14 : Int).toNat + 1) i_14).bind fun i_25 =>
    (M171 a_1 l_16 i_25 ((j_15 + 1 - i_25 : Int).toNat + 1) j_15).bind fun j_38 =>
    bif decide (i_25 > j_38) then some (i_25, l_16) else
    (idx l_16 j_38).bind fun x_49 =>
    (idx l_16 i_25).bind fun x_50 =>
    (idx l_16 i_25).bind fun x_51 =>
    (idx (List.set l_16 (Int.toNat i_25) x_49) j_38).bind fun x_52 =>
    (M172 a_1 n_17) ((w64 (i_25 + 1))) ((w64 (j_38 - 1))) ((List.set (List.set l_16 (Int.toNat i_25) x_49) (Int.toNat j_38) x_50))
def M173 (a_1 : Int) (b_2 : Int) (pivot_3 : Int) (l_4 : List Int) : Option (Int × List Int) :=
 (idx l_4 pivot_3).bind fun x_7 =>
 (idx l_4 a_1).bind fun x_8 =>
 (idx l_4 a_1).bind fun x_9 =>
 (idx (List.set l_4 (Int.toNat a_1) x_7) pivot_3).bind fun x_10 =>
 (M172 a_1 (List.length ((List.set (List.set l_4 (Int.toNat a_1) x_7) (Int.toNat pivot_3) x_8)) + 1) ((w64 (a_1 + 1))) ((w64 (b_2 - 1))) ((List.set (List.set l_4 (Int.toNat a_1) x_7) (Int.toNat pivot_3) x_8))).bind fun (i_18, l_19) =>
 some (i_18, l_19)
def M174 (a_1 : Int) (b_2 : Int) (pivot_3 : Int) (l_4 : List Int) (x_8 : Int) (x_9 : Int) : Nat → Int → Option (Int)
  | 0, _ => none
  | n_14 + 1, i_13 =>
    bif decide (i_13 ≤ (w64 (b_2 - 1))) then
     (idx (List.set (List.set l_4 (Int.toNat a_1) x_8) (Int.toNat pivot_3) x_9) i_13).bind fun x_19 =>
     (idx (List.set (List.set l_4 (Int.toNat a_1) x_8) (Int.toNat pivot_3) x_9) a_1).bind fun x_20 =>
     (M146 x_19 x_20).bind fun r_21 =>
     bif r_21 then (M174 a_1 b_2 pivot_3 l_4 x_8 x_9 n_14) ((w64 (i_13 + 1))) else
     some i_13
    else
    some i_13
def M175 (a_1 : Int) (pivot_3 : Int) (l_4 : List Int) (x_8 : Int) (x_9 : Int) (i_15 : Int) : Nat → Int → Option (Int)
  | 0, _ => none
  | n_27 + 1, j_26 =>
    bif decide (i_15 ≤ j_26) then
     (idx (List.set (List.set l_4 (Int.toNat a_1) x_8) (Int.toNat pivot_3) x_9) j_26).bind fun x_32 =>
     (idx (List.set (List.set l_4 (Int.toNat a_1) x_8) (Int.toNat pivot_3) x_9) a_1).bind fun x_33 =>
     (M146 x_32 x_33).bind fun r_34 =>
     bif !r_34 then (M175 a_1 pivot_3 l_4 x_8 x_9 i_15 n_27) ((w64 (j_26 - 1))) else
     some j_26
    else
    some j_26
def M176 (a_1 : Int) (j_51 : Int) (l_52 : List Int) : Nat → Int → Option (Int)
  | 0, _ => none
  | n_60 + 1, i_59 =>
    bif decide (i_59 ≤ j_51) then
     (idx l_52 i_59).bind fun x_65 =>
     (idx l_52 a_1).bind fun x_66 =>
     (M146 x_65 x_66).bind fun r_67 =>
     bif r_67 then (M176 a_1 j_51 l_52 n_60) ((w64 (i_59 + 1))) else
     some i_59
    else
    some i_59
def M177 (a_1 : Int) (l_52 : List Int) (i_61 : Int) : Nat → Int → Option (Int)
  | 0, _ => none
  | n_73 + 1, j_72 =>
    bif decide (i_61 ≤ j_72) then
     (idx l_52 j_72).bind fun x_78 =>
     (idx l_52 a_1).bind fun x_79 =>
     (M146 x_78 x_79).bind fun r_80 =>
     bif !r_80 then (M177 a_1 l_52 i_61 n_73) ((w64 (j_72 - 1))) else
     some j_72
    else
    some j_72
def M178 (a_1 : Int) : Nat → Int → Int → (List Int) → Option (Int × List Int)
  | 0, _, _, _ => none
  | n_53 + 1, i_50, j_51, l_52 =>
    (M176 a_1 j_51 l_52 ((j_51 + 1 - i_50 : Int).toNat + 1) i_50).bind fun i_61 =>
    (M177 a_1 l_52 i_61 ((j_51 + 1 - i_61 : Int).toNat + 1) j_51).bind fun j_74 =>
    bif decide (i_61 > j_74) then some (j_74, l_52) else
    (idx l_52 j_74).bind fun x_85 =>
    (idx l_52 i_61).bind fun x_86 =>
    (idx l_52 i_61).bind fun x_87 =>
    (idx (List.set l_52 (Int.toNat i_61) x_85) j_74).bind fun x_88 =>
    (M178 a_1 n_53) ((w64 (i_61 + 1))) ((w64 (j_74 - 1))) ((List.set (List.set l_52 (Int.toNat i_61) x_85) (Int.toNat j_74) x_86))
def M179 (a_1 : Int) (b_2 : Int) (pivot_3 : Int) (l_4 : List Int) : Option (Int × Bool × List Int) :=
 (idx l_4 pivot_3).bind fun x_8 =>
 (idx l_4 a_1).bind fun x_9 =>
 (idx l_4 a_1).bind fun x_10 =>
 (idx (List.set l_4 (Int.toNat a_1) x_8) pivot_3).bind fun x_11 =>
 (M174 a_1 b_2 pivot_3 l_4 x_8 x_9 (((w64 (b_2 - 1)) + 1 - (w64 (a_1 + 1)) : Int).toNat + 1) ((w64 (a_1 + 1)))).bind fun i_15 =>
 (M175 a_1 pivot_3 l_4 x_8 x_9 i_15 (((w64 (b_2 - 1)) + 1 - i_15 : Int).toNat + 1) ((w64 (b_2 - 1)))).bind fun j_28 =>
 bif decide (i_15 > j_28) then
  (idx (List.set (List.set l_4 (Int.toNat a_1) x_8) (Int.toNat pivot_3) x_9) a_1).bind fun x_39 =>
  (idx (List.set (List.set l_4 (Int.toNat a_1) x_8) (Int.toNat pivot_3) x_9) j_28).bind fun x_40 =>
  (idx (List.set (List.set l_4 (Int.toNat a_1) x_8) (Int.toNat pivot_3) x_9) j_28).bind fun x_41 =>
  (idx (List.set (List.set (List.set l_4 (Int.toNat a_1) x_8) (Int.toNat pivot_3) x_9) (Int.toNat j_28) x_39) a_1).bind fun x_42 =>
  some (j_28, true, (List.set (List.set (List.set (List.set l_4 (Int.toNat a_1) x_8) (Int.toNat pivot_3) x_9) (Int.toNat j_28) x_39) (Int.toNat a_1) x_40))
 else
 (idx (List.set (List.set l_4 (Int.toNat a_1) x_8) (Int.toNat pivot_3) x_9) j_28).bind fun x_43 =>
 (idx (List.set (List.set l_4 (Int.toNat a_1) x_8) (Int.toNat pivot_3) x_9) i_15).bind fun x_44 =>
 (idx (List.set (List.set l_4 (Int.toNat a_1) x_8) (Int.toNat pivot_3) x_9) i_15).bind fun x_45 =>
 (idx (List.set (List.set (List.set l_4 (Int.toNat a_1) x_8) (Int.toNat pivot_3) x_9) (Int.toNat i_15) x_43) j_28).bind fun x_46 =>
 (M178 a_1 (List.length ((List.set (List.set (List.set (List.set l_4 (Int.toNat a_1) x_8) (Int.toNat pivot_3) x_9) (Int.toNat i_15) x_43) (Int.toNat j_28) x_44)) + 1) ((w64 (i_15 + 1))) ((w64 (j_28 - 1))) ((List.set (List.set (List.set (List.set l_4 (Int.toNat a_1) x_8) (Int.toNat pivot_3) x_9) (Int.toNat i_15) x_43) (Int.toNat j_28) x_44))).bind fun (j_54, l_55) =>
 (idx l_55 a_1).bind fun x_90 =>
 (idx l_55 j_54).bind fun x_91 =>
 (idx l_55 j_54).bind fun x_92 =>
 (idx (List.set l_55 (Int.toNat j_54) x_90) a_1).bind fun x_93 =>
 some (j_54, false, (List.set (List.set l_55 (Int.toNat j_54) x_90) (Int.toNat a_1) x_91))
def M180 (a_1 : Int) (b_2 : Int) (r_6 : Int) : Nat → Int → (List Int) → Int → Option (List Int)
  | 0, _, _, _ => none
  | n_14 + 1, idx_11, l_12, v_13 =>
    bif decide (idx_11 ≤ (w64 ((w64 (a_1 + (w64 ((w64 (Int.tdiv (w64 (b_2 - a_1)) 4)) * 2)))) + 1))) then
     (M112 v_13).bind fun (r_19, b_20) =>
     bif decide ((w64 (bitK .u64 (BitVec.ofInt 64 r_19 &&& BitVec.ofInt 64 (IntKind.wrap .u64 (r_6 - 1))))) ≥ (w64 (b_2 - a_1))) then
      (idx l_12 (w64 (a_1 + (w64 ((w64 (bitK .u64 (BitVec.ofInt 64 r_19 &&& BitVec.ofInt 64 (IntKind.wrap .u64 (r_6 - 1))))) - (w64 (b_2 - a_1))))))).bind fun x_23 =>
      (idx l_12 idx_11).bind fun x_24 =>
      (idx l_12 idx_11).bind fun x_25 =>
      (idx (List.set l_12 (Int.toNat idx_11) x_23) (w64 (a_1 + (w64 ((w64 (bitK .u64 (BitVec.ofInt 64 r_19 &&& BitVec.ofInt 64 (IntKind.wrap .u64 (r_6 - 1))))) - (w64 (b_2 - a_1))))))).bind fun x_26 =>
      (M180 a_1 b_2 r_6 n_14) ((w64 (idx_11 + 1))) ((List.set (List.set l_12 (Int.toNat idx_11) x_23) (Int.toNat (w64 (a_1 + (w64 ((w64 (bitK .u64 (BitVec.ofInt 64 r_19 &&& BitVec.ofInt 64 (IntKind.wrap .u64 (r_6 - 1))))) - (w64 (b_2 - a_1))))))) x_24)) b_20
     else
     (idx l_12 (w64 (a_1 + (w64 (bitK .u64 (BitVec.ofInt 64 r_19 &&& BitVec.ofInt 64 (IntKind.wrap .u64 (r_6 - 1)))))))).bind fun x_27 =>
     (idx l_12 idx_11).bind fun x_28 =>
     (idx l_12 idx_11).bind fun x_29 =>
     (idx (List.set l_12 (Int.toNat idx_11) x_27) (w64 (a_1 + (w64 (bitK .u64 (BitVec.ofInt 64 r_19 &&& BitVec.ofInt 64 (IntKind.wrap .u64 (r_6 - 1)))))))).bind fun x_30 =>
     (M180 a_1 b_2 r_6 n_14) ((w64 (idx_11 + 1))) ((List.set (List.set l_12 (Int.toNat idx_11) x_27) (Int.toNat (w64 (a_1 + (w64 (bitK .u64 (BitVec.ofInt 64 r_19 &&& BitVec.ofInt 64 (IntKind.wrap .u64 (r_6 - 1)))))))) x_28)) b_20
    else
    some l_12
def M181 (a_1 : Int) (b_2 : Int) (l_3 : List Int) : Option (List Int) :=
 bif decide ((w64 (b_2 - a_1)) ≥ 8) then
  (M111 ((w64 (b_2 - a_1)))).bind fun r_6 =>
  (M180 a_1 b_2 r_6 (((w64 ((w64 (a_1 + (w64 ((w64 (Int.tdiv (w64 (b_2 - a_1)) 4)) * 2)))) + 1)) + 1 - (w64 ((w64 (a_1 + (w64 ((w64 (Int.tdiv (w64 (b_2 - a_1)) 4)) * 2)))) - 1)) : Int).toNat + 1) ((w64 ((w64 (a_1 + (w64 ((w64 (Int.tdiv (w64 (b_2 - a_1)) 4)) * 2)))) - 1))) l_3 ((IntKind.wrap .u64 (w64 (b_2 - a_1))))).bind fun l_15 =>
  some l_15
 else
 some l_3
def M182 (a_17 : Int) (b_18 : Int) (wasBalanced_20 : Bool) (wasPartitioned_21 : Bool) (nx_24 : Int → Int → Int → Bool → Bool → (List Int) → Option (List Int)) (limit_34 : Int) (pivot_44 : Int) (rc_9070 : Int → Int → Int → (List Int) → Option (List Int)) (l_55 : List Int) : Option (List Int) :=
 Option.bind (
  bif decide (a_17 > 0) then
   (idx l_55 (w64 (a_17 - 1))).bind fun x_59 =>
   (idx l_55 pivot_44).bind fun x_60 =>
   (M146 x_59 x_60).bind fun r_61 =>
   some (!r_61)
  else
  some false
 ) fun v_56 =>
 bif v_56 then
  (M173 a_17 b_18 pivot_44 l_55).bind fun (r_64, l_65) =>
  (lenIs l_65 l_55).bind fun _ =>
  nx_24 r_64 b_18 limit_34 wasBalanced_20 wasPartitioned_21 l_65
 else
 (M179 a_17 b_18 pivot_44 l_55).bind fun (r_68, r_69, l_70) =>
 (lenIs l_70 l_55).bind fun _ =>
 bif decide ((w64 (r_68 - a_17)) < (w64 (b_18 - r_68))) then
  (rc_9070 a_17 r_68 limit_34 l_70).bind fun l_74 =>
  (lenIs l_74 l_70).bind fun _ =>
  nx_24 ((w64 (r_68 + 1))) b_18 limit_34 ((decide ((w64 (r_68 - a_17)) ≥ (w64 (Int.tdiv (w64 (b_18 - a_17)) 8))))) r_69 l_74
 else
 (rc_9070 ((w64 (r_68 + 1))) b_18 limit_34 l_70).bind fun l_77 =>
 (lenIs l_77 l_70).bind fun _ =>
 nx_24 a_17 r_68 limit_34 ((decide ((w64 (b_18 - r_68)) ≥ (w64 (Int.tdiv (w64 (b_18 - a_17)) 8))))) r_69 l_77
def M183 (rc_9070 : Int → Int → Int → (List Int) → Option (List Int)) : Nat → Int → Int → Int → Bool → Bool → (List Int) → Option (List Int)
  | 0, _, _, _, _, _, _ => none
  | n_23 + 1, a_17, b_18, limit_19, wasBalanced_20, wasPartitioned_21, l_22 =>
    bif decide ((w64 (b_18 - a_17)) ≤ 12) then
     (M149 a_17 b_18 l_22).bind fun l_27 =>
     (lenIs l_27 l_22).bind fun _ =>
     some l_27
    else
    bif limit_19 == 0 then
     (M155 a_17 b_18 l_22).bind fun l_31 =>
     (lenIs l_31 l_22).bind fun _ =>
     some l_31
    else
    Option.bind (
     bif !wasBalanced_20 then
      (M181 a_17 b_18 l_22).bind fun l_38 =>
      (lenIs l_38 l_22).bind fun _ =>
      some ((w64 (limit_19 - 1)), l_38)
     else
     some (limit_19, l_22)
    ) fun (limit_34, l_35) =>
    (M159 l_35 a_17 b_18).bind fun (r_41, r_42) =>
    Option.bind (
     bif r_42 == 2 then
      (M161 a_17 b_18 l_35).bind fun l_49 =>
      (lenIs l_49 l_35).bind fun _ =>
      some ((w64 ((w64 (b_18 - 1)) - (w64 (r_41 - a_17)))), 1, l_49)
     else
     some (r_41, r_42, l_35)
    ) fun (pivot_44, hint_45, l_46) =>
    bif wasBalanced_20 && (wasPartitioned_21 && (hint_45 == 1)) then
     (M169 a_17 b_18 l_46).bind fun (r_81, l_82) =>
     (lenIs l_82 l_46).bind fun _ =>
     bif r_81 then some l_82 else
     M182 a_17 b_18 wasBalanced_20 wasPartitioned_21 (M183 rc_9070 n_23) limit_34 pivot_44 rc_9070 l_82
    else
    M182 a_17 b_18 wasBalanced_20 wasPartitioned_21 (M183 rc_9070 n_23) limit_34 pivot_44 rc_9070 l_46
def M184 (rc_9070 : Int → Int → Int → (List Int) → Option (List Int)) (a_1 : Int) (b_2 : Int) (limit_3 : Int) (l_4 : List Int) : Option (List Int) :=
 M183 rc_9070 (List.length l_4 + 1) a_1 b_2 limit_3 true true l_4
def M185 : Nat → Int → Int → Int → (List Int) → Option (List Int)
  | 0 => fun _ _ _ _ => none
  | n + 1 => M184 (M185 n)
def M186 (l_1 : List Int) : Option (List Int) :=
 (M76 ((IntKind.wrap .u64 (((l_1).length : Int))))).bind fun r_3 =>
 (M185 (List.length l_1 + 1) 0 ((((l_1).length : Int))) r_3 l_1).bind fun l_5 =>
 (lenIs l_5 l_1).bind fun _ =>
 some l_5
def M187 (x_7 : TField) : Nat → Int → (List Int) → Option (List Int)
  | 0, _, _ => none
  | n_12 + 1, v_10, l_11 =>
    bif decide (v_10 < (((x_7.Runners).length : Int))) then
     (idx x_7.Runners v_10).bind fun x_17 =>
     (app 8 l_11 (([x_17.Bib] : List Int))).bind fun l_18 =>
     (M187 x_7 n_12) ((w64 (v_10 + 1))) l_18
    else
    some l_11
def M188 (f_1 : List TField) (l_20 : List Int) (k_30 : (List TTotal) → Option (List TTotal × Int)) : Nat → Int → (List TTotal) → Option (List TTotal × Int)
  | 0, _, _ => none
  | n_27 + 1, v_25, l_26 =>
    bif decide (v_25 < (((l_20).length : Int))) then
     (idx l_20 v_25).bind fun x_32 =>
     (M144 f_1 x_32).bind fun (r_33, r_34) =>
     bif r_34 != 0 then some ((([] : List TTotal)), r_34) else
     (app 40 l_26 (([r_33] : List TTotal))).bind fun l_37 =>
     (M188 f_1 l_20 k_30 n_27) ((w64 (v_25 + 1))) l_37
    else
    k_30 l_26
def M189 (l_28 : List TTotal) : Option (List TTotal × Int) :=
 some (l_28, 0)
def M190 (f_1 : List TField) : Option (List TTotal × Int) :=
 (M49 f_1).bind fun r_4 =>
 bif r_4 != 0 then some ((([] : List TTotal)), r_4) else
 (idx f_1 0).bind fun x_7 =>
 (M187 x_7 (((((x_7.Runners).length : Int)) - 0 : Int).toNat + 1) 0 ((([] : List Int)))).bind fun l_13 =>
 (M186 l_13).bind fun l_20 =>
 (lenIs l_20 l_13).bind fun _ =>
 M188 f_1 l_20 M189 (((((l_20).length : Int)) - 0 : Int).toNat + 1) 0 ((([] : List TTotal)))
def M191 (a_1 : List TSpan) (b_2 : List TSpan) (k_9 : Unit → Option (Bool)) : Nat → Int → Option (Bool)
  | 0, _ => none
  | n_7 + 1, i_6 =>
    bif decide (i_6 < (((a_1).length : Int))) then
     (idx a_1 i_6).bind fun x_11 =>
     (idx b_2 i_6).bind fun x_12 =>
     bif !((x_11.Lo == x_12.Lo) && ((x_11.Hi == x_12.Hi) && true)) then some false else
     (M191 a_1 b_2 k_9 n_7) ((w64 (i_6 + 1)))
    else
    k_9 ()
def M192 (_ : Unit) : Option (Bool) :=
 some true
def M193 (a_1 : List TSpan) (b_2 : List TSpan) : Option (Bool) :=
 bif (((a_1).length : Int)) != (((b_2).length : Int)) then some false else
 M191 a_1 b_2 M192 (((((a_1).length : Int)) - 0 : Int).toNat + 1) 0
def M194 (a_1 : TTotal) (b_2 : TTotal) : Option (Bool) :=
 bif a_1.Bib == b_2.Bib then
  bif a_1.Out == b_2.Out then
   (M193 a_1.Sums b_2.Sums).bind fun r_6 =>
   some r_6
  else
  some false
 else
 some false
def M195 (bib_1 : Int) (lo_2 : Int) (hi_3 : Int) (out_4 : Bool) : Option (TTotal) :=
 some ({ Bib := bib_1, Sums := (([({ Lo := lo_2, Hi := hi_3 } : TSpan)] : List TSpan)), Out := out_4 } : TTotal)
def M196 (s_1 : List TSpan) (s_2 : List TSpan) (k_9 : Unit → Option (Bool)) : Nat → Int → Option (Bool)
  | 0, _ => none
  | n_7 + 1, v_6 =>
    bif decide (v_6 < (((s_1).length : Int))) then
     (idx s_1 v_6).bind fun x_11 =>
     (idx s_2 v_6).bind fun x_12 =>
     bif !((x_11.Lo == x_12.Lo) && ((x_11.Hi == x_12.Hi) && true)) then some false else
     (M196 s_1 s_2 k_9 n_7) ((w64 (v_6 + 1)))
    else
    k_9 ()
def M197 (_ : Unit) : Option (Bool) :=
 some true
def M198 (s_1 : List TSpan) (s_2 : List TSpan) : Option (Bool) :=
 bif (((s_1).length : Int)) != (((s_2).length : Int)) then some false else
 M196 s_1 s_2 M197 (((((s_1).length : Int)) - 0 : Int).toNat + 1) 0
def M199 (t_1 : TTotal) : Option (Bool) :=
 some (decide ((((t_1.Sums).length : Int)) > 0))
def M200 (l_1 : List TTotal) (k_7 : Unit → Option (Bool)) : Nat → Int → Option (Bool)
  | 0, _ => none
  | n_5 + 1, v_4 =>
    bif decide (v_4 < (((l_1).length : Int))) then
     (idx l_1 v_4).bind fun x_9 =>
     (M127 x_9.Sums).bind fun (r_10, r_11) =>
     Option.bind (
      bif decide (x_9.Bib < 1) then some true else
      bif decide (x_9.Bib > 9999) then some true else
      bif decide (v_4 > 0) then
       (idx l_1 (w64 (v_4 - 1))).bind fun x_18 =>
       bif decide (x_9.Bib ≤ x_18.Bib) then some true else
       bif r_11 != 0 then some true else
       (M198 r_10 x_9.Sums).bind fun r_21 =>
       bif !r_21 then some true else
       (M199 x_9).bind fun r_24 =>
       bif !r_24 then some (!x_9.Out) else
       some false
      else
      bif r_11 != 0 then some true else
      (M198 r_10 x_9.Sums).bind fun r_28 =>
      bif !r_28 then some true else
      (M199 x_9).bind fun r_31 =>
      bif !r_31 then some (!x_9.Out) else
      some false
     ) fun v_13 =>
     bif v_13 then some false else
     (M200 l_1 k_7 n_5) ((w64 (v_4 + 1)))
    else
    k_7 ()
def M201 (_ : Unit) : Option (Bool) :=
 some true
def M202 (l_1 : List TTotal) : Option (Bool) :=
 M200 l_1 M201 (((((l_1).length : Int)) - 0 : Int).toNat + 1) 0
def M203 : Option (Unit) :=
 some ()
def M204 (t_1 : TTotal) : Option (Int) :=
 (idx t_1.Sums (w64 ((((t_1.Sums).length : Int)) - 1))).bind fun x_3 =>
 some x_3.Hi
def M205 (t_1 : TTotal) : Option (Int) :=
 (idx t_1.Sums 0).bind fun x_3 =>
 some x_3.Lo
def M206 (a_1 : TTotal) (b_2 : TTotal) : Option (Bool) :=
 bif !a_1.Out then
  (M204 a_1).bind fun r_5 =>
  (M205 b_2).bind fun r_7 =>
  some (decide (r_5 < r_7))
 else
 some false
def M207 (l_1 : List TTotal) (at_2 : Int) : Nat → Int → Int → Option (Int)
  | 0, _, _ => none
  | n_8 + 1, n_6, v_7 =>
    bif decide (v_7 < (((l_1).length : Int))) then
     Option.bind (
      (idx l_1 v_7).bind fun x_15 =>
      bif v_7 != at_2 then
       (M199 x_15).bind fun r_17 =>
       bif r_17 then
        (idx l_1 at_2).bind fun x_20 =>
        (M206 x_15 x_20).bind fun r_21 =>
        bif r_21 then some (w64 (n_6 + 1)) else
        some n_6
       else
       some n_6
      else
      some n_6
     ) fun n_13 =>
     (M207 l_1 at_2 n_8) n_13 ((w64 (v_7 + 1)))
    else
    some n_6
def M208 (l_1 : List TTotal) (at_2 : Int) : Option (Int) :=
 (M207 l_1 at_2 (((((l_1).length : Int)) - 0 : Int).toNat + 1) 0 0).bind fun n_9 =>
 some n_9
def M209 (i_1 : Int) (c_2 : List TTotal) : Option (Bool) :=
 (idx c_2 i_1).bind fun x_4 =>
 (M199 x_4).bind fun r_5 =>
 bif r_5 then
  (M203).bind fun _ =>
  (M208 c_2 i_1).bind fun r_9 =>
  some (r_9 == 0)
 else
 some false
def M210 (t_1 : TTotal) : Option (Int) :=
 some t_1.Bib
def M211 (l_1 : List TTotal) (c_2 : List TTotal) : Nat → Int → (List Int) → Option (List Int)
  | 0, _, _ => none
  | n_8 + 1, v_6, l_7 =>
    bif decide (v_6 < (((l_1).length : Int))) then
     (idx l_1 v_6).bind fun x_13 =>
     (M209 v_6 c_2).bind fun r_14 =>
     bif r_14 then
      (M210 x_13).bind fun r_17 =>
      (app 8 l_7 (([r_17] : List Int))).bind fun l_19 =>
      (M211 l_1 c_2 n_8) ((w64 (v_6 + 1))) l_19
     else
     (M211 l_1 c_2 n_8) ((w64 (v_6 + 1))) l_7
    else
    some l_7
def M212 (l_1 : List TTotal) (c_2 : List TTotal) : Option (List Int) :=
 (M211 l_1 c_2 (((((l_1).length : Int)) - 0 : Int).toNat + 1) 0 ((([] : List Int)))).bind fun l_9 =>
 some l_9
def M213 (l_1 : List TTotal) : Option (List Int × Int) :=
 (M202 l_1).bind fun r_4 =>
 bif !r_4 then some ((([] : List Int)), 330) else
 (M212 l_1 l_1).bind fun r_7 =>
 some (r_7, 0)
def M214 : Option (Unit) :=
 some ()
def M215 (a_1 : TTotal) (b_2 : TTotal) : Option (Bool) :=
 (M205 a_1).bind fun r_4 =>
 (M204 b_2).bind fun r_6 =>
 some (decide (r_4 < r_6))
def M216 (l_1 : List TTotal) (at_2 : Int) : Nat → Int → Int → Option (Int)
  | 0, _, _ => none
  | n_8 + 1, n_6, v_7 =>
    bif decide (v_7 < (((l_1).length : Int))) then
     Option.bind (
      (idx l_1 v_7).bind fun x_15 =>
      bif v_7 != at_2 then
       (M199 x_15).bind fun r_17 =>
       bif r_17 then
        (idx l_1 at_2).bind fun x_20 =>
        (M215 x_15 x_20).bind fun r_21 =>
        bif r_21 then some (w64 (n_6 + 1)) else
        some n_6
       else
       some n_6
      else
      some n_6
     ) fun n_13 =>
     (M216 l_1 at_2 n_8) n_13 ((w64 (v_7 + 1)))
    else
    some n_6
def M217 (l_1 : List TTotal) (at_2 : Int) : Option (Int) :=
 (M216 l_1 at_2 (((((l_1).length : Int)) - 0 : Int).toNat + 1) 0 0).bind fun n_9 =>
 some n_9
def M218 (i_1 : Int) (c_2 : List TTotal) (c_3 : Int) : Option (Bool) :=
 (idx c_2 i_1).bind fun x_5 =>
 (M199 x_5).bind fun r_6 =>
 bif r_6 then
  (idx c_2 i_1).bind fun x_9 =>
  bif !x_9.Out then
   (M214).bind fun _ =>
   (M217 c_2 i_1).bind fun r_12 =>
   some (decide (r_12 < c_3))
  else
  some false
 else
 some false
def M219 (l_1 : List TTotal) (c_2 : List TTotal) (c_3 : Int) : Nat → Int → (List Int) → Option (List Int)
  | 0, _, _ => none
  | n_9 + 1, v_7, l_8 =>
    bif decide (v_7 < (((l_1).length : Int))) then
     (idx l_1 v_7).bind fun x_14 =>
     (M218 v_7 c_2 c_3).bind fun r_15 =>
     bif r_15 then
      (M210 x_14).bind fun r_18 =>
      (app 8 l_8 (([r_18] : List Int))).bind fun l_20 =>
      (M219 l_1 c_2 c_3 n_9) ((w64 (v_7 + 1))) l_20
     else
     (M219 l_1 c_2 c_3 n_9) ((w64 (v_7 + 1))) l_8
    else
    some l_8
def M220 (l_1 : List TTotal) (c_2 : List TTotal) (c_3 : Int) : Option (List Int) :=
 (M219 l_1 c_2 c_3 (((((l_1).length : Int)) - 0 : Int).toNat + 1) 0 ((([] : List Int)))).bind fun l_10 =>
 some l_10
def M221 (i_1 : Int) (c_2 : List TTotal) (c_3 : Int) : Option (Bool) :=
 (idx c_2 i_1).bind fun x_5 =>
 (M199 x_5).bind fun r_6 =>
 bif r_6 then
  (M203).bind fun _ =>
  (M208 c_2 i_1).bind fun r_10 =>
  some (decide (r_10 < c_3))
 else
 some false
def M222 (l_1 : List TTotal) (c_2 : List TTotal) (c_3 : Int) : Nat → Int → (List Int) → Option (List Int)
  | 0, _, _ => none
  | n_9 + 1, v_7, l_8 =>
    bif decide (v_7 < (((l_1).length : Int))) then
     (idx l_1 v_7).bind fun x_14 =>
     (M221 v_7 c_2 c_3).bind fun r_15 =>
     bif r_15 then
      (M210 x_14).bind fun r_18 =>
      (app 8 l_8 (([r_18] : List Int))).bind fun l_20 =>
      (M222 l_1 c_2 c_3 n_9) ((w64 (v_7 + 1))) l_20
     else
     (M222 l_1 c_2 c_3 n_9) ((w64 (v_7 + 1))) l_8
    else
    some l_8
def M223 (l_1 : List TTotal) (c_2 : List TTotal) (c_3 : Int) : Option (List Int) :=
 (M222 l_1 c_2 c_3 (((((l_1).length : Int)) - 0 : Int).toNat + 1) 0 ((([] : List Int)))).bind fun l_10 =>
 some l_10
def M224 (l_1 : List TTotal) (most_2 : Int) : Option (List Int × List Int × Int) :=
 (M202 l_1).bind fun r_6 =>
 bif !r_6 then some ((([] : List Int)), (([] : List Int)), 330) else
 bif decide (most_2 < 0) then some ((([] : List Int)), (([] : List Int)), 1) else
 bif decide (most_2 > 4000) then some ((([] : List Int)), (([] : List Int)), 1) else
 (M220 l_1 l_1 most_2).bind fun r_11 =>
 (M223 l_1 l_1 most_2).bind fun r_13 =>
 some (r_11, r_13, 0)
def M225 (a_1 : List Int) (b_2 : List Int) (k_9 : Unit → Option (Bool)) : Nat → Int → Option (Bool)
  | 0, _ => none
  | n_7 + 1, i_6 =>
    bif decide (i_6 < (((a_1).length : Int))) then
     (idx a_1 i_6).bind fun x_11 =>
     (idx b_2 i_6).bind fun x_12 =>
     bif x_11 != x_12 then some false else
     (M225 a_1 b_2 k_9 n_7) ((w64 (i_6 + 1)))
    else
    k_9 ()
def M226 (_ : Unit) : Option (Bool) :=
 some true
def M227 (a_1 : List Int) (b_2 : List Int) : Option (Bool) :=
 bif (((a_1).length : Int)) != (((b_2).length : Int)) then some false else
 M225 a_1 b_2 M226 (((((a_1).length : Int)) - 0 : Int).toNat + 1) 0
def M228 (l_1 : List TTotal) (leaders_2 : List Int) (sure_3 : List Int) (perhaps_4 : List Int) : Option (Bool) :=
 (M213 l_1).bind fun (r_6, r_7) =>
 (M224 l_1 1).bind fun (r_9, r_10, r_11) =>
 Option.bind (
  bif r_7 == 0 then
   bif r_11 == 0 then
    (M227 r_6 leaders_2).bind fun r_17 =>
    bif r_17 then
     (M227 r_9 sure_3).bind fun r_20 =>
     bif r_20 then
      (M227 r_10 perhaps_4).bind fun r_23 =>
      some r_23
     else
     some false
    else
    some false
   else
   some false
  else
  some false
 ) fun v_13 =>
 some v_13
def M229 (x_1 : Int) : Option (Bool) :=
 some (x_1 != x_1)
def M230 (x_1 : List Int) (target_2 : Int) : Nat → Int → Int → Option (Int)
  | 0, _, _ => none
  | n_9 + 1, i_7, j_8 =>
    bif decide (i_7 < j_8) then
     (idx x_1 (w64 (shrK .u64 (IntKind.wrap .u64 (w64 (i_7 + j_8))) 1))).bind fun x_14 =>
     (M146 x_14 target_2).bind fun r_15 =>
     bif r_15 then (M230 x_1 target_2 n_9) ((w64 ((w64 (shrK .u64 (IntKind.wrap .u64 (w64 (i_7 + j_8))) 1)) + 1))) j_8 else
     (M230 x_1 target_2 n_9) i_7 ((w64 (shrK .u64 (IntKind.wrap .u64 (w64 (i_7 + j_8))) 1)))
    else
    some i_7
def M231 (x_1 : List Int) (target_2 : Int) : Option (Int × Bool) :=
 (M230 x_1 target_2 (((((x_1).length : Int)) - 0 : Int).toNat + 1) 0 ((((x_1).length : Int)))).bind fun i_10 =>
 Option.bind (
  bif decide (i_10 < (((x_1).length : Int))) then
   (idx x_1 i_10).bind fun x_22 =>
   bif x_22 == target_2 then some true else
   (idx x_1 i_10).bind fun x_24 =>
   (M229 x_24).bind fun r_25 =>
   bif r_25 then
    (M229 target_2).bind fun r_28 =>
    some r_28
   else
   some false
  else
  some false
 ) fun v_19 =>
 some (i_10, v_19)
def M232 (by_2 : Int) (r_11 : List TSpan) (k_23 : Int → (List TSpan) → Option (List TSpan × Int)) : Nat → Int → Int → (List TSpan) → Option (List TSpan × Int)
  | 0, _, _, _ => none
  | n_19 + 1, e_16, v_17, l_18 =>
    bif decide (v_17 < (((r_11).length : Int))) then
     (idx r_11 v_17).bind fun x_25 =>
     (M63 (({ Lo := (w64 (x_25.Lo + by_2)), Hi := (w64 (x_25.Hi + by_2)) } : TSpan))).bind fun r_26 =>
     bif r_26 != 0 then some ((([] : List TSpan)), r_26) else
     (app 16 l_18 (([({ Lo := (w64 (x_25.Lo + by_2)), Hi := (w64 (x_25.Hi + by_2)) } : TSpan)] : List TSpan))).bind fun l_29 =>
     (M232 by_2 r_11 k_23 n_19) r_26 ((w64 (v_17 + 1))) l_29
    else
    k_23 e_16 l_18
def M233 (e_20 : Int) (l_21 : List TSpan) : Option (List TSpan × Int) :=
 some (l_21, 0)
def M234 (a_1 : List TSpan) (by_2 : Int) : Option (List TSpan × Int) :=
 (M71 ((([a_1] : List (List TSpan))))).bind fun r_5 =>
 bif r_5 != 0 then some ((([] : List TSpan)), r_5) else
 bif (((a_1).length : Int)) == 0 then some ((([] : List TSpan)), r_5) else
 bif decide (by_2 < (-140737488355328)) then some ((([] : List TSpan)), 10) else
 bif decide (by_2 > 140737488355328) then some ((([] : List TSpan)), 10) else
 (M126 a_1).bind fun r_11 =>
 M232 by_2 r_11 M233 (((((r_11).length : Int)) - 0 : Int).toNat + 1) r_5 0 ((([] : List TSpan)))
def M235 (bibs_2 : List Int) (amounts_3 : List Int) (k_14 : Unit → Option (List TTotal × Int)) : Nat → Int → Option (List TTotal × Int)
  | 0, _ => none
  | n_12 + 1, v_11 =>
    bif decide (v_11 < (((bibs_2).length : Int))) then
     (idx bibs_2 v_11).bind fun x_16 =>
     Option.bind (
      bif decide (v_11 > 0) then
       (idx bibs_2 (w64 (v_11 - 1))).bind fun x_20 =>
       bif decide (x_16 ≤ x_20) then some true else
       (idx amounts_3 v_11).bind fun x_22 =>
       bif decide (x_22 < 0) then some true else
       (idx amounts_3 v_11).bind fun x_24 =>
       some (decide (x_24 > 1099511627776))
      else
      (idx amounts_3 v_11).bind fun x_25 =>
      bif decide (x_25 < 0) then some true else
      (idx amounts_3 v_11).bind fun x_27 =>
      some (decide (x_27 > 1099511627776))
     ) fun v_17 =>
     bif v_17 then some ((([] : List TTotal)), 1) else
     (M235 bibs_2 amounts_3 k_14 n_12) ((w64 (v_11 + 1)))
    else
    k_14 ()
def M236 (bibs_2 : List Int) (amounts_3 : List Int) (l_29 : List TTotal) (k_43 : Int → (List TTotal) → Option (List TTotal × Int)) : Nat → Int → Int → (List TTotal) → Option (List TTotal × Int)
  | 0, _, _, _ => none
  | n_39 + 1, e_36, v_37, l_38 =>
    bif decide (v_37 < (((l_29).length : Int))) then
     (idx l_38 v_37).bind fun x_45 =>
     (M231 bibs_2 x_45.Bib).bind fun (r_46, r_47) =>
     bif !r_47 then (M236 bibs_2 amounts_3 l_29 k_43 n_39) e_36 ((w64 (v_37 + 1))) l_38 else
     (idx amounts_3 r_46).bind fun x_50 =>
     (M234 x_45.Sums ((w64 (0 - x_50)))).bind fun (r_51, r_52) =>
     (idx l_38 v_37).bind fun x_54 =>
     bif r_52 != 0 then some ((([] : List TTotal)), r_52) else
     (M236 bibs_2 amounts_3 l_29 k_43 n_39) r_52 ((w64 (v_37 + 1))) ((List.set l_38 (Int.toNat v_37) ({ Bib := x_54.Bib, Sums := r_51, Out := x_54.Out } : TTotal)))
    else
    k_43 e_36 l_38
def M237 (e_40 : Int) (l_41 : List TTotal) : Option (List TTotal × Int) :=
 some (l_41, 0)
def M238 (l_1 : List TTotal) (bibs_2 : List Int) (amounts_3 : List Int) (_ : Unit) : Option (List TTotal × Int) :=
 Option.bind (
  (app 40 (([] : List TTotal)) l_1).bind fun l_32 =>
  some l_32
 ) fun l_29 =>
 M236 bibs_2 amounts_3 l_29 M237 (((((l_29).length : Int)) - 0 : Int).toNat + 1) 0 0 l_29
def M239 (l_1 : List TTotal) (bibs_2 : List Int) (amounts_3 : List Int) : Option (List TTotal × Int) :=
 (M202 l_1).bind fun r_6 =>
 bif !r_6 then some ((([] : List TTotal)), 330) else
 bif (((bibs_2).length : Int)) != (((amounts_3).length : Int)) then some ((([] : List TTotal)), 1) else
 M235 bibs_2 amounts_3 (M238 l_1 bibs_2 amounts_3) (((((bibs_2).length : Int)) - 0 : Int).toNat + 1) 0
def M240 (a_1 : List TTotal) (b_2 : List TTotal) (k_9 : Unit → Option (Bool)) : Nat → Int → Option (Bool)
  | 0, _ => none
  | n_7 + 1, i_6 =>
    bif decide (i_6 < (((a_1).length : Int))) then
     (idx a_1 i_6).bind fun x_11 =>
     (idx b_2 i_6).bind fun x_12 =>
     (M194 x_11 x_12).bind fun r_13 =>
     bif !r_13 then some false else
     (M240 a_1 b_2 k_9 n_7) ((w64 (i_6 + 1)))
    else
    k_9 ()
def M241 (_ : Unit) : Option (Bool) :=
 some true
def M242 (a_1 : List TTotal) (b_2 : List TTotal) : Option (Bool) :=
 bif (((a_1).length : Int)) != (((b_2).length : Int)) then some false else
 M240 a_1 b_2 M241 (((((a_1).length : Int)) - 0 : Int).toNat + 1) 0
def M243 : Option (Bool) :=
 (M0 10 11).bind fun r_2 =>
 (M0 12 13).bind fun r_4 =>
 (M1 ((([r_2] : List TOutcome))) ((([r_4] : List TOutcome)))).bind fun r_6 =>
 (M0 5 5).bind fun r_8 =>
 (M0 9 9).bind fun r_10 =>
 (M1 ((([r_8, r_10] : List TOutcome))) ((([({ Out := true, Seg := (-1), Lo := 0, Hi := 0 } : TOutcome)] : List TOutcome)))).bind fun r_12 =>
 (M145 ((([r_6, r_12] : List TField))) 1).bind fun (r_14, r_15) =>
 (M145 ((([r_6, r_12] : List TField))) 2).bind fun (r_17, r_18) =>
 (M145 ((([r_6] : List TField))) 3).bind fun (r_20, r_21) =>
 (M190 ((([] : List TField)))).bind fun (r_23, r_24) =>
 Option.bind (
  bif r_15 != 0 then some true else
  bif r_18 != 0 then some true else
  bif r_21 != 250 then some true else
  bif r_24 != 330 then some true else
  (M194 r_14 (({ Bib := 1, Sums := (([({ Lo := 15, Hi := 16 } : TSpan), ({ Lo := 19, Hi := 20 } : TSpan)] : List TSpan)), Out := false } : TTotal))).bind fun r_32 =>
  bif !r_32 then some true else
  (M194 r_17 (({ Bib := 2, Sums := (([] : List TSpan)), Out := true } : TTotal))).bind fun r_35 =>
  some (!r_35)
 ) fun v_26 =>
 bif v_26 then some false else
 Option.bind (
  (M195 1 10 11 false).bind fun r_40 =>
  (M195 2 12 13 false).bind fun r_42 =>
  (M228 ((([r_40, r_42] : List TTotal))) ((([1] : List Int))) ((([1] : List Int))) ((([1] : List Int)))).bind fun r_44 =>
  bif !r_44 then some true else
  (M195 1 10 12 false).bind fun r_47 =>
  (M195 2 12 13 false).bind fun r_49 =>
  (M228 ((([r_47, r_49] : List TTotal))) ((([1, 2] : List Int))) ((([1] : List Int))) ((([1, 2] : List Int)))).bind fun r_51 =>
  bif !r_51 then some true else
  (M195 1 10 11 true).bind fun r_54 =>
  (M195 2 12 13 false).bind fun r_56 =>
  (M228 ((([r_54, r_56] : List TTotal))) ((([1, 2] : List Int))) ((([] : List Int))) ((([1, 2] : List Int)))).bind fun r_58 =>
  bif !r_58 then some true else
  (M228 ((([({ Bib := 1, Sums := (([] : List TSpan)), Out := true } : TTotal)] : List TTotal))) ((([] : List Int))) ((([] : List Int))) ((([] : List Int)))).bind fun r_61 =>
  some (!r_61)
 ) fun v_38 =>
 bif v_38 then some false else
 (M195 1 10 11 false).bind fun r_64 =>
 (M224 ((([r_64] : List TTotal))) 0).bind fun (r_66, r_67, r_68) =>
 (M195 1 15 16 false).bind fun r_70 =>
 (M239 ((([r_70] : List TTotal))) ((([1] : List Int))) ((([5] : List Int)))).bind fun (r_72, r_73) =>
 Option.bind (
  bif (w64 ((((r_66).length : Int)) + (((r_67).length : Int)))) == 0 then
   bif r_68 == 0 then
    bif r_73 == 0 then
     (M195 1 10 11 false).bind fun r_80 =>
     (M242 r_72 ((([r_80] : List TTotal)))).bind fun r_82 =>
     some r_82
    else
    some false
   else
   some false
  else
  some false
 ) fun v_75 =>
 some v_75
def M244 (k_1 : TClocks) (k_9 : Unit → Option (Bool)) : Nat → Int → Option (Bool)
  | 0, _ => none
  | n_7 + 1, i_6 =>
    bif decide (i_6 < (((k_1.Far).length : Int))) then
     (idx k_1.Far i_6).bind fun x_11 =>
     bif decide ((((x_11).length : Int)) > 12) then some false else
     (M244 k_1 k_9 n_7) ((w64 (i_6 + 1)))
    else
    k_9 ()
def M245 (_ : Unit) : Option (Bool) :=
 some true
def M246 (k_1 : TClocks) : Option (Bool) :=
 bif decide ((((k_1.Segments).length : Int)) > 8) then some false else
 bif decide ((((k_1.Far).length : Int)) > 10) then some false else
 M244 k_1 M245 (((((k_1.Far).length : Int)) - 0 : Int).toNat + 1) 0
def M247 (x_17 : TRunner) : Nat → Int → Int → Option (Int)
  | 0, _, _ => none
  | n_24 + 1, n_22, w_23 =>
    bif decide (w_23 < (((x_17.Worlds).length : Int))) then
     (idx x_17.Worlds w_23).bind fun x_29 =>
     (M247 x_17 n_24) ((w64 (n_22 + (((x_29).length : Int))))) ((w64 (w_23 + 1)))
    else
    some n_22
def M248 (f_1 : TField) (k_15 : Int → Option (Bool)) : Nat → Int → Int → Option (Bool)
  | 0, _, _ => none
  | n_12 + 1, n_10, i_11 =>
    bif decide (i_11 < (((f_1.Runners).length : Int))) then
     (idx f_1.Runners i_11).bind fun x_17 =>
     bif decide ((((x_17.Keys).length : Int)) > 8) then some false else
     bif decide ((((x_17.Worlds).length : Int)) > 5) then some false else
     (M247 x_17 (((((x_17.Worlds).length : Int)) - 0 : Int).toNat + 1) n_10 0).bind fun n_25 =>
     (M248 f_1 k_15 n_12) n_25 ((w64 (i_11 + 1)))
    else
    k_15 n_10
def M249 (n_13 : Int) : Option (Bool) :=
 some (decide (n_13 ≤ 60))
def M250 (f_1 : TField) : Option (Bool) :=
 bif decide ((((f_1.Runners).length : Int)) > 6) then some false else
 bif decide ((((f_1.Pairs).length : Int)) > 3) then some false else
 (M246 f_1.Clocks).bind fun r_5 =>
 bif !r_5 then some false else
 M248 f_1 M249 (((((f_1.Runners).length : Int)) - 0 : Int).toNat + 1) 0 0
def M251 (f_1 : List TField) (k_8 : Unit → Option (Bool)) : Nat → Int → Option (Bool)
  | 0, _ => none
  | n_6 + 1, i_5 =>
    bif decide (i_5 < (((f_1).length : Int))) then
     bif decide (i_5 > 3) then
      (idx f_1 i_5).bind fun x_11 =>
      bif decide ((((x_11.Runners).length : Int)) > 1) then some false else
      (idx f_1 i_5).bind fun x_13 =>
      (M250 x_13).bind fun r_14 =>
      bif !r_14 then some false else
      (M251 f_1 k_8 n_6) ((w64 (i_5 + 1)))
     else
     (idx f_1 i_5).bind fun x_17 =>
     (M250 x_17).bind fun r_18 =>
     bif !r_18 then some false else
     (M251 f_1 k_8 n_6) ((w64 (i_5 + 1)))
    else
    k_8 ()
def M252 (_ : Unit) : Option (Bool) :=
 some true
def M253 (f_1 : List TField) : Option (Bool) :=
 bif decide ((((f_1).length : Int)) > 14) then some false else
 M251 f_1 M252 (((((f_1).length : Int)) - 0 : Int).toNat + 1) 0
def M254 (n_1 : Int) : Option (Bool) :=
 bif decide (n_1 ≥ (-1099511627776)) then some (decide (n_1 ≤ 1099511627776)) else
 some false
def M255 (a_1 : TSegment) (b_2 : TSegment) : Option (Bool) :=
 bif decide (a_1.Mat < b_2.Mat) then some true else
 bif a_1.Mat == b_2.Mat then some (decide (a_1.Epoch < b_2.Epoch)) else
 some false
def M256 (k_1 : TClocks) (k_9 : Unit → Option (Int)) : Nat → Int → Option (Int)
  | 0, _ => none
  | n_7 + 1, i_6 =>
    bif decide (i_6 < (((k_1.Segments).length : Int))) then
     (idx k_1.Segments i_6).bind fun x_11 =>
     Option.bind (
      bif decide (x_11.Mat < 0) then some true else
      bif decide (x_11.Mat ≥ 40) then some true else
      bif decide (x_11.Epoch < 0) then some true else
      bif decide (x_11.Epoch > 255) then some true else
      (M254 x_11.Anchor).bind fun r_18 =>
      bif !r_18 then some true else
      bif decide (i_6 > 0) then
       (idx k_1.Segments (w64 (i_6 - 1))).bind fun x_22 =>
       (M255 x_22 x_11).bind fun r_23 =>
       some (!r_23)
      else
      some false
     ) fun v_12 =>
     bif v_12 then some 160 else
     (M256 k_1 k_9 n_7) ((w64 (i_6 + 1)))
    else
    k_9 ()
def M257 (k_1 : TClocks) (i_27 : Int) (k_41 : Unit → Option (Int)) : Nat → Int → Option (Int)
  | 0, _ => none
  | n_39 + 1, j_38 =>
    bif decide (j_38 ≤ (((k_1.Segments).length : Int))) then
     (idx k_1.Far i_27).bind fun x_43 =>
     (idx x_43 j_38).bind fun x_44 =>
     bif decide (x_44 < (-2199023255552)) then some 160 else
     (idx k_1.Far i_27).bind fun x_46 =>
     (idx x_46 j_38).bind fun x_47 =>
     bif decide (x_47 > 2199023255552) then some 160 else
     (M257 k_1 i_27 k_41 n_39) ((w64 (j_38 + 1)))
    else
    k_41 ()
def M258 (i_27 : Int) (nx_29 : Int → Option (Int)) (_ : Unit) : Option (Int) :=
 nx_29 ((w64 (i_27 + 1)))
def M259 (k_1 : TClocks) (k_30 : Unit → Option (Int)) : Nat → Int → Option (Int)
  | 0, _ => none
  | n_28 + 1, i_27 =>
    bif decide (i_27 ≤ (((k_1.Segments).length : Int))) then
     (idx k_1.Far i_27).bind fun x_32 =>
     bif (((x_32).length : Int)) != (w64 ((((k_1.Segments).length : Int)) + 1)) then some 160 else
     (idx k_1.Far i_27).bind fun x_34 =>
     (idx x_34 i_27).bind fun x_35 =>
     bif x_35 != 0 then some 160 else
     M257 k_1 i_27 (M258 i_27 (M259 k_1 k_30 n_28)) (((((k_1.Segments).length : Int)) + 1 - 0 : Int).toNat + 1) 0
    else
    k_30 ()
def M260 (k_1 : TClocks) (i_50 : Int) (j_56 : Int) (k_65 : Unit → Option (Int)) : Nat → Int → Option (Int)
  | 0, _ => none
  | n_63 + 1, m_62 =>
    bif decide (m_62 ≤ (((k_1.Segments).length : Int))) then
     (idx k_1.Far i_50).bind fun x_67 =>
     (idx x_67 m_62).bind fun x_68 =>
     (idx k_1.Far i_50).bind fun x_69 =>
     (idx x_69 j_56).bind fun x_70 =>
     (idx k_1.Far j_56).bind fun x_71 =>
     (idx x_71 m_62).bind fun x_72 =>
     bif decide (x_68 > (w64 (x_70 + x_72))) then some 160 else
     (M260 k_1 i_50 j_56 k_65 n_63) ((w64 (m_62 + 1)))
    else
    k_65 ()
def M261 (j_56 : Int) (nx_58 : Int → Option (Int)) (_ : Unit) : Option (Int) :=
 nx_58 ((w64 (j_56 + 1)))
def M262 (k_1 : TClocks) (i_50 : Int) (k_59 : Unit → Option (Int)) : Nat → Int → Option (Int)
  | 0, _ => none
  | n_57 + 1, j_56 =>
    bif decide (j_56 ≤ (((k_1.Segments).length : Int))) then M260 k_1 i_50 j_56 (M261 j_56 (M262 k_1 i_50 k_59 n_57)) (((((k_1.Segments).length : Int)) + 1 - 0 : Int).toNat + 1) 0 else
    k_59 ()
def M263 (i_50 : Int) (nx_52 : Int → Option (Int)) (_ : Unit) : Option (Int) :=
 nx_52 ((w64 (i_50 + 1)))
def M264 (k_1 : TClocks) (k_53 : Unit → Option (Int)) : Nat → Int → Option (Int)
  | 0, _ => none
  | n_51 + 1, i_50 =>
    bif decide (i_50 ≤ (((k_1.Segments).length : Int))) then M262 k_1 i_50 (M263 i_50 (M264 k_1 k_53 n_51)) (((((k_1.Segments).length : Int)) + 1 - 0 : Int).toNat + 1) 0 else
    k_53 ()
def M265 (_ : Unit) : Option (Int) :=
 some 0
def M266 (k_1 : TClocks) (_ : Unit) : Option (Int) :=
 M264 k_1 M265 (((((k_1.Segments).length : Int)) + 1 - 0 : Int).toNat + 1) 0
def M267 (k_1 : TClocks) (_ : Unit) : Option (Int) :=
 M259 k_1 (M266 k_1) (((((k_1.Segments).length : Int)) + 1 - 0 : Int).toNat + 1) 0
def M268 (k_1 : TClocks) : Option (Int) :=
 bif decide ((((k_1.Segments).length : Int)) > 511) then some 160 else
 bif (((k_1.Far).length : Int)) != (w64 ((((k_1.Segments).length : Int)) + 1)) then some 160 else
 M256 k_1 (M267 k_1) (((((k_1.Segments).length : Int)) - 0 : Int).toNat + 1) 0
def M269 (n_1 : Int) (least_2 : Int) (most_3 : Int) : Option (Bool) :=
 bif decide (n_1 ≥ least_2) then some (decide (n_1 ≤ most_3)) else
 some false
def M270 (n_1 : Int) : Option (Bool) :=
 (M269 n_1 1 9999).bind fun r_3 =>
 some r_3
def M271 (k_1 : TClocks) (x_2 : TOutcome) : Option (Int) :=
 (M268 k_1).bind fun r_4 =>
 bif r_4 != 0 then some r_4 else
 bif bif x_2.Out then ((x_2.Seg != (-1)) || ((x_2.Lo != 0) || (x_2.Hi != 0))) else ((decide (x_2.Seg < (-1))) || ((decide (x_2.Seg ≥ (((k_1.Segments).length : Int)))) || ((decide (x_2.Lo < (-288230376151711744))) || ((decide (x_2.Lo > x_2.Hi)) || (decide (x_2.Hi > 288230376151711744)))))) then some 230 else
 some 0
def M272 (f_1 : TField) (world_2 : Int) (k_8 : Unit → Option (Bool)) : Nat → Int → Option (Bool)
  | 0, _ => none
  | n_6 + 1, i_5 =>
    bif decide (i_5 < (((f_1.Runners).length : Int))) then
     bif decide (world_2 < 0) then some false else
     (idx f_1.Runners i_5).bind fun x_11 =>
     bif decide (world_2 ≥ (((x_11.Worlds).length : Int))) then some false else
     (idx f_1.Runners i_5).bind fun x_13 =>
     (idx x_13.Worlds world_2).bind fun x_14 =>
     bif (((x_14).length : Int)) == 0 then some false else
     (M272 f_1 world_2 k_8 n_6) ((w64 (i_5 + 1)))
    else
    k_8 ()
def M273 (_ : Unit) : Option (Bool) :=
 some true
def M274 (f_1 : TField) (world_2 : Int) : Option (Bool) :=
 M272 f_1 world_2 M273 (((((f_1.Runners).length : Int)) - 0 : Int).toNat + 1) 0
def M275 (f_1 : TField) (k_7 : Unit → Option (Bool)) : Nat → Int → Option (Bool)
  | 0, _ => none
  | n_5 + 1, w_4 =>
    bif decide (w_4 ≤ (((f_1.Pairs).length : Int))) then
     (M274 f_1 w_4).bind fun r_9 =>
     bif r_9 then some true else
     (M275 f_1 k_7 n_5) ((w64 (w_4 + 1)))
    else
    k_7 ()
def M276 (_ : Unit) : Option (Bool) :=
 some false
def M277 (f_1 : TField) : Option (Bool) :=
 M275 f_1 M276 (((((f_1.Pairs).length : Int)) + 1 - 0 : Int).toNat + 1) 0
def M278 (f_1 : TField) (k_15 : Unit → Option (Int)) : Nat → Int → Option (Int)
  | 0, _ => none
  | n_13 + 1, i_12 =>
    bif decide (i_12 < (((f_1.Pairs).length : Int))) then
     (idx f_1.Pairs i_12).bind fun x_17 =>
     bif decide (x_17.A < 1) then some 240 else
     bif decide (x_17.A ≥ x_17.B) then some 240 else
     bif decide (x_17.B > 9999) then some 240 else
     Option.bind (
      bif decide (i_12 > 0) then
       (idx f_1.Pairs (w64 (i_12 - 1))).bind fun x_24 =>
       bif decide (x_24.A > x_17.A) then some true else
       (idx f_1.Pairs (w64 (i_12 - 1))).bind fun x_26 =>
       bif x_26.A == x_17.A then
        (idx f_1.Pairs (w64 (i_12 - 1))).bind fun x_28 =>
        some (decide (x_28.B ≥ x_17.B))
       else
       some false
      else
      some false
     ) fun v_21 =>
     bif v_21 then some 240 else
     (M278 f_1 k_15 n_13) ((w64 (i_12 + 1)))
    else
    k_15 ()
def M279 (f_1 : TField) (x_36 : TRunner) (w_51 : Int) (k_60 : Unit → Option (Int)) : Nat → Int → Option (Int)
  | 0, _ => none
  | n_58 + 1, n_57 =>
    (idx x_36.Worlds w_51).bind fun x_61 =>
    bif decide (n_57 < (((x_61).length : Int))) then
     (idx x_36.Worlds w_51).bind fun x_63 =>
     (idx x_63 n_57).bind fun x_64 =>
     (M271 f_1.Clocks x_64).bind fun r_65 =>
     bif r_65 != 0 then some 240 else
     (M279 f_1 x_36 w_51 k_60 n_58) ((w64 (n_57 + 1)))
    else
    k_60 ()
def M280 (w_51 : Int) (nx_53 : Int → Option (Int)) (_ : Unit) : Option (Int) :=
 nx_53 ((w64 (w_51 + 1)))
def M281 (f_1 : TField) (x_36 : TRunner) (k_54 : Unit → Option (Int)) : Nat → Int → Option (Int)
  | 0, _ => none
  | n_52 + 1, w_51 =>
    bif decide (w_51 < (((x_36.Worlds).length : Int))) then M279 f_1 x_36 w_51 (M280 w_51 (M281 f_1 x_36 k_54 n_52)) ((((((Option.getD (idx x_36.Worlds w_51) default)).length : Int)) - 0 : Int).toNat + 1) 0 else
    k_54 ()
def M282 (i_31 : Int) (nx_33 : Int → Option (Int)) (_ : Unit) : Option (Int) :=
 nx_33 ((w64 (i_31 + 1)))
def M283 (f_1 : TField) (k_34 : Unit → Option (Int)) : Nat → Int → Option (Int)
  | 0, _ => none
  | n_32 + 1, i_31 =>
    bif decide (i_31 < (((f_1.Runners).length : Int))) then
     (idx f_1.Runners i_31).bind fun x_36 =>
     Option.bind (
      (M270 x_36.Bib).bind fun r_39 =>
      bif !r_39 then some true else
      bif decide (i_31 > 0) then
       (idx f_1.Runners (w64 (i_31 - 1))).bind fun x_43 =>
       bif decide (x_43.Bib ≥ x_36.Bib) then some true else
       (idx f_1.Runners 0).bind fun x_45 =>
       bif (((x_36.Keys).length : Int)) != (((x_45.Keys).length : Int)) then some true else
       some ((((x_36.Worlds).length : Int)) != (w64 ((((f_1.Pairs).length : Int)) + 1)))
      else
      (idx f_1.Runners 0).bind fun x_47 =>
      bif (((x_36.Keys).length : Int)) != (((x_47.Keys).length : Int)) then some true else
      some ((((x_36.Worlds).length : Int)) != (w64 ((((f_1.Pairs).length : Int)) + 1)))
     ) fun v_37 =>
     bif v_37 then some 240 else
     M281 f_1 x_36 (M282 i_31 (M283 f_1 k_34 n_32)) (((((x_36.Worlds).length : Int)) - 0 : Int).toNat + 1) 0
    else
    k_34 ()
def M284 (f_1 : TField) (_ : Unit) : Option (Int) :=
 (M277 f_1).bind fun r_68 =>
 bif !r_68 then some 240 else
 some 0
def M285 (f_1 : TField) (_ : Unit) : Option (Int) :=
 M283 f_1 (M284 f_1) (((((f_1.Runners).length : Int)) - 0 : Int).toNat + 1) 0
def M286 (f_1 : TField) : Option (Int) :=
 Option.bind (
  (M268 f_1.Clocks).bind fun r_5 =>
  bif r_5 != 0 then some true else
  bif decide ((((f_1.Pairs).length : Int)) > 16) then some true else
  bif decide ((((f_1.Runners).length : Int)) < 1) then some true else
  some (decide ((((f_1.Runners).length : Int)) > 4000))
 ) fun v_3 =>
 bif v_3 then some 240 else
 M278 f_1 (M285 f_1) (((((f_1.Pairs).length : Int)) - 0 : Int).toNat + 1) 0
def M287 (f_1 : List TField) (k_9 : Unit → Option (Int)) : Nat → Int → Option (Int)
  | 0, _ => none
  | n_7 + 1, i_6 =>
    bif decide (i_6 < (((f_1).length : Int))) then
     (idx f_1 i_6).bind fun x_11 =>
     (M286 x_11).bind fun r_12 =>
     bif r_12 != 0 then some r_12 else
     (M287 f_1 k_9 n_7) ((w64 (i_6 + 1)))
    else
    k_9 ()
def M288 (_ : Unit) : Option (Int) :=
 some 0
def M289 (f_1 : List TField) : Option (Int) :=
 bif decide ((((f_1).length : Int)) < 1) then some 330 else
 bif decide ((((f_1).length : Int)) > 12) then some 330 else
 M287 f_1 M288 (((((f_1).length : Int)) - 0 : Int).toNat + 1) 0
def M290 (f_1 : TField) (bib_2 : Int) (k_8 : Unit → Option (Int)) : Nat → Int → Option (Int)
  | 0, _ => none
  | n_6 + 1, i_5 =>
    bif decide (i_5 < (((f_1.Runners).length : Int))) then
     (idx f_1.Runners i_5).bind fun x_10 =>
     bif x_10.Bib == bib_2 then some i_5 else
     (M290 f_1 bib_2 k_8 n_6) ((w64 (i_5 + 1)))
    else
    k_8 ()
def M291 (_ : Unit) : Option (Int) :=
 some (-1)
def M292 (f_1 : TField) (bib_2 : Int) : Option (Int) :=
 M290 f_1 bib_2 M291 (((((f_1.Runners).length : Int)) - 0 : Int).toNat + 1) 0
def M293 (f_1 : TField) (world_2 : Int) (k_8 : Unit → Option (Bool)) : Nat → Int → Option (Bool)
  | 0, _ => none
  | n_6 + 1, i_5 =>
    bif decide (i_5 < (((f_1.Runners).length : Int))) then
     (idx f_1.Runners i_5).bind fun x_10 =>
     bif decide (world_2 ≥ (((x_10.Worlds).length : Int))) then some false else
     (idx f_1.Runners i_5).bind fun x_12 =>
     (idx x_12.Worlds world_2).bind fun x_13 =>
     bif (((x_13).length : Int)) == 0 then some false else
     (M293 f_1 world_2 k_8 n_6) ((w64 (i_5 + 1)))
    else
    k_8 ()
def M294 (_ : Unit) : Option (Bool) :=
 some true
def M295 (f_1 : TField) (world_2 : Int) : Option (Bool) :=
 M293 f_1 world_2 M294 (((((f_1.Runners).length : Int)) - 0 : Int).toNat + 1) 0
def M296 (k_1 : TClocks) (seg_2 : Int) (x_3 : TSpan) : Option (TSpan) :=
 bif decide (seg_2 < 0) then some x_3 else
 (idx k_1.Far (w64 (seg_2 + 1))).bind fun x_6 =>
 (idx x_6 0).bind fun x_7 =>
 (idx k_1.Far 0).bind fun x_8 =>
 (idx x_8 (w64 (seg_2 + 1))).bind fun x_9 =>
 some ({ Lo := (w64 (x_3.Lo - x_7)), Hi := (w64 (x_3.Hi + x_9)) } : TSpan)
def M297 (k_1 : TClocks) (x_2 : TOutcome) : Option (TSpan × Int) :=
 (M271 k_1 x_2).bind fun r_5 =>
 bif r_5 != 0 then some (({ Lo := 0, Hi := 0 } : TSpan), r_5) else
 bif x_2.Out then some (({ Lo := 0, Hi := 0 } : TSpan), 230) else
 (M296 k_1 x_2.Seg ({ Lo := x_2.Lo, Hi := x_2.Hi } : TSpan)).bind fun r_9 =>
 some (r_9, 0)
def M298 (s_1 : TSpan) : Option (Int) :=
 bif decide (s_1.Lo < (-70368744177664)) then some 10 else
 bif decide (s_1.Hi > 70368744177664) then some 10 else
 bif decide (s_1.Lo > s_1.Hi) then some 10 else
 some 0
def M299 (l_1 : List TSpan) (k_8 : Unit → Option (Int)) : Nat → Int → Option (Int)
  | 0, _ => none
  | n_6 + 1, i_5 =>
    bif decide (i_5 < (((l_1).length : Int))) then
     (idx l_1 i_5).bind fun x_10 =>
     (M298 x_10).bind fun r_11 =>
     bif r_11 != 0 then some 10 else
     (M299 l_1 k_8 n_6) ((w64 (i_5 + 1)))
    else
    k_8 ()
def M300 (_ : Unit) : Option (Int) :=
 some 0
def M301 (l_1 : List TSpan) : Option (Int) :=
 bif decide ((((l_1).length : Int)) > 4096) then some 2 else
 M299 l_1 M300 (((((l_1).length : Int)) - 0 : Int).toNat + 1) 0
def M302 (l_1 : List TSpan) : Nat → Bool → Int → Int → Int → (List TSpan) → Option (Bool × Int × Int × List TSpan)
  | 0, _, _, _, _, _ => none
  | n_14 + 1, done_9, i_10, v_11, v_12, l_13 =>
    bif decide (i_10 < (((l_1).length : Int))) then
     Option.bind (
      (idx l_1 i_10).bind fun x_27 =>
      bif decide ((w64 (x_27.Hi + 1)) < v_11) then
       (idx l_1 i_10).bind fun x_29 =>
       (app 16 l_13 (([x_29] : List TSpan))).bind fun l_30 =>
       some (done_9, v_11, v_12, l_30)
      else
      (idx l_1 i_10).bind fun x_31 =>
      bif decide ((w64 (v_12 + 1)) < x_31.Lo) then
       bif !done_9 then
        (app 16 l_13 (([({ Lo := v_11, Hi := v_12 } : TSpan)] : List TSpan))).bind fun l_34 =>
        (idx l_1 i_10).bind fun x_35 =>
        (app 16 l_34 (([x_35] : List TSpan))).bind fun l_36 =>
        some (true, v_11, v_12, l_36)
       else
       (idx l_1 i_10).bind fun x_37 =>
       (app 16 l_13 (([x_37] : List TSpan))).bind fun l_38 =>
       some (done_9, v_11, v_12, l_38)
      else
      (idx l_1 i_10).bind fun x_39 =>
      (idx l_1 i_10).bind fun x_40 =>
      some (done_9, (minG v_11 x_39.Lo), (maxG v_12 x_40.Hi), l_13)
     ) fun (done_22, v_23, v_24, l_25) =>
     (M302 l_1 n_14) done_22 ((w64 (i_10 + 1))) v_23 v_24 l_25
    else
    some (done_9, v_11, v_12, l_13)
def M303 (l_1 : List TSpan) (s_2 : TSpan) : Option (List TSpan) :=
 (M302 l_1 (((((l_1).length : Int)) - 0 : Int).toNat + 1) false 0 s_2.Lo s_2.Hi ((([] : List TSpan)))).bind fun (done_15, v_16, v_17, l_18) =>
 bif !done_15 then
  (app 16 l_18 (([({ Lo := v_16, Hi := v_17 } : TSpan)] : List TSpan))).bind fun l_43 =>
  some l_43
 else
 some l_18
def M304 (l_1 : List TSpan) : Nat → (List TSpan) → Int → Option (List TSpan)
  | 0, _, _ => none
  | n_7 + 1, out_5, i_6 =>
    bif decide (i_6 < (((l_1).length : Int))) then
     (idx l_1 i_6).bind fun x_12 =>
     (M303 out_5 x_12).bind fun r_13 =>
     (M304 l_1 n_7) r_13 ((w64 (i_6 + 1)))
    else
    some out_5
def M305 (l_1 : List TSpan) : Option (List TSpan) :=
 (M304 l_1 (((((l_1).length : Int)) - 0 : Int).toNat + 1) ((([] : List TSpan))) 0).bind fun out_8 =>
 some out_8
def M306 (l_1 : List TSpan) : Option (List TSpan × Int) :=
 (M301 l_1).bind fun r_4 =>
 bif r_4 != 0 then some ((([] : List TSpan)), r_4) else
 (M305 l_1).bind fun r_7 =>
 some (r_7, 0)
def M307 (f_1 : TField) (x_23 : List TOutcome) : Nat → Bool → Int → (List TSpan) → Option (Bool × List TSpan)
  | 0, _, _, _ => none
  | n_30 + 1, out_27, i_28, l_29 =>
    bif decide (i_28 < (((x_23).length : Int))) then
     (idx x_23 i_28).bind fun x_36 =>
     bif x_36.Out then (M307 f_1 x_23 n_30) true ((w64 (i_28 + 1))) l_29 else
     (idx x_23 i_28).bind fun x_38 =>
     (M297 f_1.Clocks x_38).bind fun (r_39, r_40) =>
     (app 16 l_29 (([r_39] : List TSpan))).bind fun l_42 =>
     (M307 f_1 x_23 n_30) out_27 ((w64 (i_28 + 1))) l_42
    else
    some (out_27, l_29)
def M308 (f_1 : TField) (runner_2 : Int) : Nat → Bool → Int → (List TSpan) → Option (Bool × List TSpan)
  | 0, _, _, _ => none
  | n_12 + 1, out_9, w_10, l_11 =>
    (idx f_1.Runners runner_2).bind fun x_17 =>
    bif decide (w_10 < (((x_17.Worlds).length : Int))) then
     (M295 f_1 w_10).bind fun r_19 =>
     bif !r_19 then (M308 f_1 runner_2 n_12) out_9 ((w64 (w_10 + 1))) l_11 else
     (idx f_1.Runners runner_2).bind fun x_22 =>
     (idx x_22.Worlds w_10).bind fun x_23 =>
     (M307 f_1 x_23 (((((x_23).length : Int)) - 0 : Int).toNat + 1) out_9 0 l_11).bind fun (out_31, l_32) =>
     (M308 f_1 runner_2 n_12) out_31 ((w64 (w_10 + 1))) l_32
    else
    some (out_9, l_11)
def M309 (f_1 : TField) (runner_2 : Int) : Option (List TSpan × Bool × Int) :=
 (M308 f_1 runner_2 ((((((Option.getD (idx f_1.Runners runner_2) default).Worlds).length : Int)) - 0 : Int).toNat + 1) false 0 ((([] : List TSpan)))).bind fun (out_13, l_14) =>
 (M306 l_14).bind fun (r_45, r_46) =>
 some (r_45, out_13, r_46)
def M310 (a_1 : List TSpan) (b_2 : List TSpan) : Option (Int) :=
 (M301 a_1).bind fun r_4 =>
 bif r_4 == 0 then
  (M301 b_2).bind fun r_7 =>
  some r_7
 else
 some r_4
def M311 (l_1 : List TSpan) : Option (List TSpan × Int) :=
 bif decide ((((l_1).length : Int)) > 4096) then some ((([] : List TSpan)), 2) else
 some (l_1, 0)
def M312 (r_8 : List TSpan) (r_10 : List TSpan) (i_16 : Int) (k_29 : (List TSpan) → Option (List TSpan × Int)) : Nat → (List TSpan) → Int → Option (List TSpan × Int)
  | 0, _, _ => none
  | n_26 + 1, out_24, k_25 =>
    bif decide (k_25 < (((r_10).length : Int))) then
     (idx r_8 i_16).bind fun x_31 =>
     (idx r_10 k_25).bind fun x_32 =>
     (idx r_8 i_16).bind fun x_33 =>
     (idx r_10 k_25).bind fun x_34 =>
     (M298 (({ Lo := (w64 (x_31.Lo + x_32.Lo)), Hi := (w64 (x_33.Hi + x_34.Hi)) } : TSpan))).bind fun r_35 =>
     bif r_35 != 0 then some ((([] : List TSpan)), 10) else
     (M303 out_24 (({ Lo := (w64 (x_31.Lo + x_32.Lo)), Hi := (w64 (x_33.Hi + x_34.Hi)) } : TSpan))).bind fun r_38 =>
     (M312 r_8 r_10 i_16 k_29 n_26) r_38 ((w64 (k_25 + 1)))
    else
    k_29 out_24
def M313 (i_16 : Int) (nx_19 : (List TSpan) → Int → Option (List TSpan × Int)) (out_27 : List TSpan) : Option (List TSpan × Int) :=
 nx_19 out_27 ((w64 (i_16 + 1)))
def M314 (r_8 : List TSpan) (r_10 : List TSpan) (k_20 : (List TSpan) → Option (List TSpan × Int)) : Nat → (List TSpan) → Int → Option (List TSpan × Int)
  | 0, _, _ => none
  | n_17 + 1, out_15, i_16 =>
    bif decide (i_16 < (((r_8).length : Int))) then M312 r_8 r_10 i_16 (M313 i_16 (M314 r_8 r_10 k_20 n_17)) (((((r_10).length : Int)) - 0 : Int).toNat + 1) out_15 0 else
    k_20 out_15
def M315 (out_18 : List TSpan) : Option (List TSpan × Int) :=
 (M311 out_18).bind fun (r_40, r_41) =>
 some (r_40, r_41)
def M316 (a_1 : List TSpan) (b_2 : List TSpan) : Option (List TSpan × Int) :=
 (M310 a_1 b_2).bind fun r_5 =>
 bif r_5 != 0 then some ((([] : List TSpan)), r_5) else
 (M305 a_1).bind fun r_8 =>
 (M305 b_2).bind fun r_10 =>
 bif decide ((w64 ((((r_8).length : Int)) * (((r_10).length : Int)))) > 65536) then some ((([] : List TSpan)), 2) else
 M314 r_8 r_10 M315 (((((r_8).length : Int)) - 0 : Int).toNat + 1) ((([] : List TSpan))) 0
def M317 (f_1 : List TField) (bib_2 : Int) (k_9 : Unit → Option (TTotal × Int)) : Nat → Int → Option (TTotal × Int)
  | 0, _ => none
  | n_7 + 1, i_6 =>
    bif decide (i_6 < (((f_1).length : Int))) then
     (idx f_1 i_6).bind fun x_11 =>
     (M292 x_11 bib_2).bind fun r_12 =>
     bif decide (r_12 < 0) then some (({ Bib := bib_2, Sums := (([] : List TSpan)), Out := true } : TTotal), 0) else
     (idx f_1 i_6).bind fun x_15 =>
     (M309 x_15 r_12).bind fun (r_16, r_17, r_18) =>
     bif r_18 != 0 then some (({ Bib := 0, Sums := (([] : List TSpan)), Out := false } : TTotal), r_18) else
     bif (((r_16).length : Int)) == 0 then some (({ Bib := bib_2, Sums := (([] : List TSpan)), Out := true } : TTotal), 0) else
     (M317 f_1 bib_2 k_9 n_7) ((w64 (i_6 + 1)))
    else
    k_9 ()
def M318 (f_1 : List TField) (bib_2 : Int) (k_32 : (List TSpan) → Bool → Option (TTotal × Int)) : Nat → Int → (List TSpan) → Bool → Option (TTotal × Int)
  | 0, _, _, _ => none
  | n_28 + 1, i_25, v_26, v_27 =>
    bif decide (i_25 < (((f_1).length : Int))) then
     (idx f_1 i_25).bind fun x_34 =>
     (idx f_1 i_25).bind fun x_35 =>
     (M292 x_35 bib_2).bind fun r_36 =>
     (M309 x_34 r_36).bind fun (r_38, r_39, r_40) =>
     bif i_25 == 0 then (M318 f_1 bib_2 k_32 n_28) ((w64 (i_25 + 1))) r_38 (v_27 || r_39) else
     (M316 v_26 r_38).bind fun (r_45, r_46) =>
     bif r_46 != 0 then some (({ Bib := 0, Sums := (([] : List TSpan)), Out := false } : TTotal), r_46) else
     (M318 f_1 bib_2 k_32 n_28) ((w64 (i_25 + 1))) r_45 (v_27 || r_39)
    else
    k_32 v_26 v_27
def M319 (bib_2 : Int) (v_29 : List TSpan) (v_30 : Bool) : Option (TTotal × Int) :=
 some (({ Bib := bib_2, Sums := v_29, Out := v_30 } : TTotal), 0)
def M320 (f_1 : List TField) (bib_2 : Int) (_ : Unit) : Option (TTotal × Int) :=
 M318 f_1 bib_2 (M319 bib_2) (((((f_1).length : Int)) - 0 : Int).toNat + 1) 0 ((([] : List TSpan))) false
def M321 (f_1 : List TField) (bib_2 : Int) : Option (TTotal × Int) :=
 M317 f_1 bib_2 (M320 f_1 bib_2) (((((f_1).length : Int)) - 0 : Int).toNat + 1) 0
def M322 (f_1 : List TField) (bib_2 : Int) : Option (TTotal × Int) :=
 (M289 f_1).bind fun r_5 =>
 bif r_5 != 0 then some (({ Bib := 0, Sums := (([] : List TSpan)), Out := false } : TTotal), r_5) else
 (idx f_1 0).bind fun x_8 =>
 (M292 x_8 bib_2).bind fun r_9 =>
 bif decide (r_9 < 0) then some (({ Bib := 0, Sums := (([] : List TSpan)), Out := false } : TTotal), 250) else
 (M321 f_1 bib_2).bind fun (r_12, r_13) =>
 some (r_12, r_13)
def M323 (f_1 : List TField) (k_14 : (List TTotal) → Option (List TTotal × Int)) : Nat → Int → (List TTotal) → Option (List TTotal × Int)
  | 0, _, _ => none
  | n_11 + 1, bib_9, l_10 =>
    bif decide (bib_9 ≤ 9999) then
     (idx f_1 0).bind fun x_16 =>
     (M292 x_16 bib_9).bind fun r_17 =>
     bif decide (r_17 < 0) then (M323 f_1 k_14 n_11) ((w64 (bib_9 + 1))) l_10 else
     (M321 f_1 bib_9).bind fun (r_20, r_21) =>
     bif r_21 != 0 then some ((([] : List TTotal)), r_21) else
     (app 40 l_10 (([r_20] : List TTotal))).bind fun l_24 =>
     (M323 f_1 k_14 n_11) ((w64 (bib_9 + 1))) l_24
    else
    k_14 l_10
def M324 (l_12 : List TTotal) : Option (List TTotal × Int) :=
 some (l_12, 0)
def M325 (f_1 : List TField) : Option (List TTotal × Int) :=
 (M289 f_1).bind fun r_4 =>
 bif r_4 != 0 then some ((([] : List TTotal)), r_4) else
 M323 f_1 M324 ((9999 + 1 - 1 : Int).toNat + 1) 1 ((([] : List TTotal)))
def M326 (f_1 : List TField) (bib_2 : Int) : Option (Bool) :=
 (M243).bind fun r_4 =>
 bif !r_4 then some false else
 (M253 f_1).bind fun r_7 =>
 bif !r_7 then some true else
 (M145 f_1 bib_2).bind fun (r_10, r_11) =>
 (M322 f_1 bib_2).bind fun (r_13, r_14) =>
 (M190 f_1).bind fun (r_16, r_17) =>
 (M325 f_1).bind fun (r_19, r_20) =>
 Option.bind (
  (M194 r_10 r_13).bind fun r_24 =>
  bif r_24 then
   bif r_11 == r_14 then
    (M242 r_16 r_19).bind fun r_28 =>
    bif r_28 then some (r_17 == r_20) else
    some false
   else
   some false
  else
  some false
 ) fun v_22 =>
 some v_22
end Go.Stop
