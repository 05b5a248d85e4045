/- Models of functions, by program (gen.py). No condition. -/
import Derived.Test.YtpfihfiimeepfaaGreatDoorZB7
import Derived.Sort.Defs
import Derived.Lib.BitFns
import Derived.Lib.Small
import Derived.Lib.ItoaNum
import Derived.Lib.SlicesCompact
namespace Go.Stop
open Go Go.Abs
set_option linter.unusedVariables false
structure TSegment where
  Mat : Int
  Epoch : Int
  Anchor : Int
  deriving DecidableEq, Inhabited
structure TClocks where
  Segments : List TSegment
  Far : List (List Int)
  deriving DecidableEq, Inhabited
structure TPair where
  A : Int
  B : Int
  deriving DecidableEq, Inhabited
structure TOutcome where
  Out : Bool
  Seg : Int
  Lo : Int
  Hi : Int
  deriving DecidableEq, Inhabited
structure TRunner where
  Bib : Int
  Keys : List Int
  Worlds : List (List TOutcome)
  deriving DecidableEq, Inhabited
structure TField where
  Clocks : TClocks
  Pairs : List TPair
  Runners : List TRunner
  deriving DecidableEq, Inhabited
structure TTeam where
  Name : ByteArray
  Bibs : List Int
  Best : Int
  deriving DecidableEq, Inhabited
structure TSpan where
  Lo : Int
  Hi : Int
  deriving DecidableEq, Inhabited
structure TTotal where
  Bib : Int
  Sums : List TSpan
  Out : Bool
  deriving DecidableEq, Inhabited
structure TStarter where
  Bib : Int
  Distance : Int
  Wave : Int
  Slot : Int
  Age : Int
  Chip : Int
  Team : Int
  Lot : Int
  deriving DecidableEq, Inhabited
structure Tteams_member where
  Span : TSpan
  can : Bool
  sure : Bool
  deriving DecidableEq, Inhabited
structure Tclocks_place where
  mat : Int
  epoch : Int
  deriving DecidableEq, Inhabited
def eTSegment (x : TSegment) : D := .ag [(.i .i64 x.Mat), (.i .i64 x.Epoch), (.i .i64 x.Anchor)]
def eTClocks (x : TClocks) : D := .ag [(.ls (List.map eTSegment x.Segments)), (.ls (List.map (eL eI) x.Far))]
def eTPair (x : TPair) : D := .ag [(.i .i64 x.A), (.i .i64 x.B)]
def eTOutcome (x : TOutcome) : D := .ag [(.b x.Out), (.i .i64 x.Seg), (.i .i64 x.Lo), (.i .i64 x.Hi)]
def eTRunner (x : TRunner) : D := .ag [(.i .i64 x.Bib), (.ls (List.map eI x.Keys)), (.ls (List.map (eL eTOutcome) x.Worlds))]
def eTField (x : TField) : D := .ag [(.ls (List.map eTSegment x.Clocks.Segments)), (.ls (List.map (eL eI) x.Clocks.Far)), (.ls (List.map eTPair x.Pairs)), (.ls (List.map eTRunner x.Runners))]
def eTTeam (x : TTeam) : D := .ag [(.s x.Name), (.ls (List.map eI x.Bibs)), (.i .i64 x.Best)]
def eTSpan (x : TSpan) : D := .ag [(.i .i64 x.Lo), (.i .i64 x.Hi)]
def eTTotal (x : TTotal) : D := .ag [(.i .i64 x.Bib), (.ls (List.map eTSpan x.Sums)), (.b x.Out)]
def eTStarter (x : TStarter) : D := .ag [(.i .i64 x.Bib), (.i .i64 x.Distance), (.i .i64 x.Wave), (.i .i64 x.Slot), (.i .i64 x.Age), (.i .i64 x.Chip), (.i .i64 x.Team), (.i .i64 x.Lot)]
def eTteams_member (x : Tteams_member) : D := .ag [(.i .i64 x.Span.Lo), (.i .i64 x.Span.Hi), (.b x.can), (.b x.sure)]
def eTclocks_place (x : Tclocks_place) : D := .ag [(.i .i64 x.mat), (.i .i64 x.epoch)]
def M0 : Nat → Int → (List TRunner) → Option (List TRunner)
  | 0, _, _ => none
  | n_6 + 1, i_4, l_5 =>
    bif decide (i_4 ≤ 4) then
     (app 56 l_5 (([({ Bib := i_4, Keys := (([] : List Int)), Worlds := (([(([({ Out := false, Seg := (-1), Lo := (w64 (10 * i_4)), Hi := (w64 (10 * i_4)) } : TOutcome)] : List TOutcome))] : List (List TOutcome))) } : TRunner)] : List TRunner))).bind fun l_11 =>
     (M0 n_6) ((w64 (i_4 + 1))) l_11
    else
    some l_5
def M1 : Option (TField) :=
 (M0 ((4 + 1 - 1 : Int).toNat + 1) 1 ((([] : List TRunner)))).bind fun l_7 =>
 some ({ Clocks := ({ Segments := (([] : List TSegment)), Far := (([(([0] : List Int))] : List (List Int))) } : TClocks), Pairs := (([] : List TPair)), Runners := l_7 } : TField)
def M2 (t_1 : TTeam) (k_13 : Unit → Option (Bool)) : Nat → Int → Option (Bool)
  | 0, _ => none
  | n_11 + 1, v_10 =>
    bif decide (v_10 < (((t_1.Bibs).length : Int))) then
     (idx t_1.Bibs v_10).bind fun x_15 =>
     Option.bind (
      bif decide (x_15 < 1) then some true else
      bif decide (x_15 > 9999) then some true else
      bif decide (v_10 > 0) then
       (idx t_1.Bibs (w64 (v_10 - 1))).bind fun x_21 =>
       some (decide (x_15 ≤ x_21))
      else
      some false
     ) fun v_16 =>
     bif v_16 then some false else
     (M2 t_1 k_13 n_11) ((w64 (v_10 + 1)))
    else
    k_13 ()
def M3 (_ : Unit) : Option (Bool) :=
 some true
def M4 (t_1 : TTeam) : Option (Bool) :=
 bif (decide ((((t_1.Name.size : Nat) : Int)) < 1)) || ((decide ((((t_1.Name.size : Nat) : Int)) > 24)) || ((decide ((((t_1.Bibs).length : Int)) > 16)) || ((decide (t_1.Best < 1)) || (decide (t_1.Best > (((t_1.Bibs).length : Int))))))) then some false else
 M2 t_1 M3 (((((t_1.Bibs).length : Int)) - 0 : Int).toNat + 1) 0
def M5 (n_1 : Int) : Option (Bool) :=
 bif decide (n_1 ≥ (-1099511627776)) then some (decide (n_1 ≤ 1099511627776)) else
 some false
def M6 (x_1 : Int) : Option (Bool) :=
 some (x_1 != x_1)
def M7 (x_1 : Int) (y_2 : Int) : Option (Int) :=
 (M6 x_1).bind fun r_4 =>
 (M6 y_2).bind fun r_6 =>
 bif r_4 then
  bif r_6 then some 0 else
  some (-1)
 else
 bif r_6 then some 1 else
 bif decide (x_1 < y_2) then some (-1) else
 bif decide (x_1 > y_2) then some 1 else
 some 0
def M8 (vals_1 : List Int) (k_7 : Unit → Option (Int)) : Nat → Int → Option (Int)
  | 0, _ => none
  | n_5 + 1, v_4 =>
    bif decide (v_4 < (((vals_1).length : Int))) then
     (idx vals_1 v_4).bind fun x_9 =>
     bif x_9 != 0 then some x_9 else
     (M8 vals_1 k_7 n_5) ((w64 (v_4 + 1)))
    else
    k_7 ()
def M9 (_ : Unit) : Option (Int) :=
 some 0
def M10 (vals_1 : List Int) : Option (Int) :=
 M8 vals_1 M9 (((((vals_1).length : Int)) - 0 : Int).toNat + 1) 0
def M11 (p_1 : Tclocks_place) (q_2 : Tclocks_place) : Option (Int) :=
 (M7 p_1.mat q_2.mat).bind fun r_4 =>
 (M7 p_1.epoch q_2.epoch).bind fun r_6 =>
 (M10 ((([r_4, r_6] : List Int)))).bind fun r_8 =>
 some r_8
def M12 (a_1 : TSegment) (b_2 : TSegment) : Option (Int) :=
 (M11 ({ mat := a_1.Mat, epoch := a_1.Epoch } : Tclocks_place) ({ mat := b_2.Mat, epoch := b_2.Epoch } : Tclocks_place)).bind fun r_4 =>
 some r_4
def M13 (w_1 : Int) : Option (Bool) :=
 bif decide (w_1 < (-2199023255552)) then some true else
 some (decide (w_1 > 2199023255552))
def M14 (s_1 : List Int) (k_7 : Unit → Option (Int)) : Nat → Int → Option (Int)
  | 0, _ => none
  | n_5 + 1, v_4 =>
    bif decide (v_4 < (((s_1).length : Int))) then
     (idx s_1 v_4).bind fun x_9 =>
     (M13 x_9).bind fun r_10 =>
     bif r_10 then some v_4 else
     (M14 s_1 k_7 n_5) ((w64 (v_4 + 1)))
    else
    k_7 ()
def M15 (_ : Unit) : Option (Int) :=
 some (-1)
def M16 (s_1 : List Int) : Option (Int) :=
 M14 s_1 M15 (((((s_1).length : Int)) - 0 : Int).toNat + 1) 0
def M17 (s_1 : List Int) : Option (Bool) :=
 (M16 s_1).bind fun r_3 =>
 some (decide (r_3 ≥ 0))
def M18 (k_1 : TClocks) (k_9 : Unit → Option (Int)) : Nat → Int → Option (Int)
  | 0, _ => none
  | n_7 + 1, v_6 =>
    bif decide (v_6 < (((k_1.Segments).length : Int))) then
     (idx k_1.Segments v_6).bind fun x_11 =>
     Option.bind (
      bif decide (x_11.Mat < 0) then some true else
      bif decide (x_11.Mat ≥ 40) then some true else
      bif decide (x_11.Epoch < 0) then some true else
      bif decide (x_11.Epoch > 255) then some true else
      (M5 x_11.Anchor).bind fun r_18 =>
      bif !r_18 then some true else
      bif decide (v_6 > 0) then
       (idx k_1.Segments (w64 (v_6 - 1))).bind fun x_22 =>
       (M12 x_22 x_11).bind fun r_23 =>
       some (decide (r_23 ≥ 0))
      else
      some false
     ) fun v_12 =>
     bif v_12 then some 160 else
     (M18 k_1 k_9 n_7) ((w64 (v_6 + 1)))
    else
    k_9 ()
def M19 (k_1 : TClocks) (k_30 : Unit → Option (Int)) : Nat → Int → Option (Int)
  | 0, _ => none
  | n_28 + 1, v_27 =>
    bif decide (v_27 < (((k_1.Far).length : Int))) then
     (idx k_1.Far v_27).bind fun x_32 =>
     bif (((x_32).length : Int)) != (w64 ((((k_1.Segments).length : Int)) + 1)) then some 160 else
     (idx x_32 v_27).bind fun x_34 =>
     bif x_34 != 0 then some 160 else
     (M17 x_32).bind fun r_36 =>
     bif r_36 then some 160 else
     (M19 k_1 k_30 n_28) ((w64 (v_27 + 1)))
    else
    k_30 ()
def M20 (k_1 : TClocks) (v_40 : Int) (x_52 : Int) (x_53 : List Int) (k_58 : Unit → Option (Int)) : Nat → Int → Option (Int)
  | 0, _ => none
  | n_56 + 1, v_55 =>
    bif decide (v_55 < (((x_53).length : Int))) then
     (idx x_53 v_55).bind fun x_60 =>
     (idx k_1.Far v_40).bind fun x_61 =>
     (idx x_61 v_55).bind fun x_62 =>
     bif decide (x_62 > (w64 (x_52 + x_60))) then some 160 else
     (M20 k_1 v_40 x_52 x_53 k_58 n_56) ((w64 (v_55 + 1)))
    else
    k_58 ()
def M21 (v_47 : Int) (nx_49 : Int → Option (Int)) (_ : Unit) : Option (Int) :=
 nx_49 ((w64 (v_47 + 1)))
def M22 (k_1 : TClocks) (v_40 : Int) (x_45 : List Int) (k_50 : Unit → Option (Int)) : Nat → Int → Option (Int)
  | 0, _ => none
  | n_48 + 1, v_47 =>
    bif decide (v_47 < (((x_45).length : Int))) then
     (idx x_45 v_47).bind fun x_52 =>
     (idx k_1.Far v_47).bind fun x_53 =>
     M20 k_1 v_40 x_52 x_53 (M21 v_47 (M22 k_1 v_40 x_45 k_50 n_48)) (((((x_53).length : Int)) - 0 : Int).toNat + 1) 0
    else
    k_50 ()
def M23 (v_40 : Int) (nx_42 : Int → Option (Int)) (_ : Unit) : Option (Int) :=
 nx_42 ((w64 (v_40 + 1)))
def M24 (k_1 : TClocks) (k_43 : Unit → Option (Int)) : Nat → Int → Option (Int)
  | 0, _ => none
  | n_41 + 1, v_40 =>
    bif decide (v_40 < (w64 ((((k_1.Segments).length : Int)) + 1))) then
     (idx k_1.Far v_40).bind fun x_45 =>
     M22 k_1 v_40 x_45 (M23 v_40 (M24 k_1 k_43 n_41)) (((((x_45).length : Int)) - 0 : Int).toNat + 1) 0
    else
    k_43 ()
def M25 (_ : Unit) : Option (Int) :=
 some 0
def M26 (k_1 : TClocks) (_ : Unit) : Option (Int) :=
 M24 k_1 M25 (((w64 ((((k_1.Segments).length : Int)) + 1)) - 0 : Int).toNat + 1) 0
def M27 (k_1 : TClocks) (_ : Unit) : Option (Int) :=
 M19 k_1 (M26 k_1) (((((k_1.Far).length : Int)) - 0 : Int).toNat + 1) 0
def M28 (k_1 : TClocks) : Option (Int) :=
 bif decide ((((k_1.Segments).length : Int)) > 511) then some 160 else
 bif (((k_1.Far).length : Int)) != (w64 ((((k_1.Segments).length : Int)) + 1)) then some 160 else
 M18 k_1 (M27 k_1) (((((k_1.Segments).length : Int)) - 0 : Int).toNat + 1) 0
def M29 (slices_1 : List (List TOutcome)) : Nat → Int → Int → Option (Int)
  | 0, _, _ => none
  | n_7 + 1, size_5, v_6 =>
    bif decide (v_6 < (((slices_1).length : Int))) then
     (idx slices_1 v_6).bind fun x_12 =>
     bif decide ((w64 (size_5 + (((x_12).length : Int)))) < 0) then none else
     (M29 slices_1 n_7) ((w64 (size_5 + (((x_12).length : Int))))) ((w64 (v_6 + 1)))
    else
    some size_5
def M30 (slices_1 : List (List TOutcome)) : Nat → Int → (List TOutcome) → Option (List TOutcome)
  | 0, _, _ => none
  | n_23 + 1, v_21, l_22 =>
    bif decide (v_21 < (((slices_1).length : Int))) then
     (idx slices_1 v_21).bind fun x_28 =>
     (app 32 l_22 x_28).bind fun l_29 =>
     (M30 slices_1 n_23) ((w64 (v_21 + 1))) l_29
    else
    some l_22
def M31 (slices_1 : List (List TOutcome)) : Nat → Int → (List TOutcome) → Option (List TOutcome)
  | 0, _, _ => none
  | n_35 + 1, v_33, l_34 =>
    bif decide (v_33 < (((slices_1).length : Int))) then
     (idx slices_1 v_33).bind fun x_40 =>
     (app 32 l_34 x_40).bind fun l_41 =>
     (M31 slices_1 n_35) ((w64 (v_33 + 1))) l_41
    else
    some l_34
def M32 (slices_1 : List (List TOutcome)) : Option (List TOutcome) :=
 (M29 slices_1 (((((slices_1).length : Int)) - 0 : Int).toNat + 1) 0 0).bind fun size_8 =>
 bif decide (size_8 < 0) then none else
 bif decide ((w64 (size_8 - 0)) > 0) then
  (mkZ 32 (w64 (size_8 - 0))).bind fun n_17 =>
  (slcTo (List.replicate n_17 ({ Out := false, Seg := 0, Lo := 0, Hi := 0 } : TOutcome)) 0).bind fun l_18 =>
  (M30 slices_1 (((((slices_1).length : Int)) - 0 : Int).toNat + 1) 0 l_18).bind fun l_24 =>
  some l_24
 else
 (M31 slices_1 (((((slices_1).length : Int)) - 0 : Int).toNat + 1) 0 ((([] : List TOutcome)))).bind fun l_36 =>
 some l_36
def M33 : Option (TOutcome) :=
 some ({ Out := true, Seg := (-1), Lo := 0, Hi := 0 } : TOutcome)
def M34 (k_1 : TClocks) (x_2 : TOutcome) : Option (Int) :=
 (M28 k_1).bind fun r_4 =>
 bif r_4 != 0 then some r_4 else
 bif x_2.Out then
  (M33).bind fun r_13 =>
  bif !((x_2.Out == r_13.Out) && ((x_2.Seg == r_13.Seg) && ((x_2.Lo == r_13.Lo) && ((x_2.Hi == r_13.Hi) && true)))) then some 230 else
  some 0
 else
 bif !((decide (x_2.Seg ≥ (-1))) && ((decide (x_2.Seg < (((k_1.Segments).length : Int)))) && ((decide (x_2.Lo ≥ (-288230376151711744))) && ((decide (x_2.Lo ≤ x_2.Hi)) && (decide (x_2.Hi ≤ 288230376151711744)))))) then some 230 else
 some 0
def M35 (r_1 : TRunner) (c_2 : Int) : Option (Bool) :=
 (idx r_1.Worlds c_2).bind fun x_4 =>
 some ((((x_4).length : Int)) == 0)
def M36 (s_1 : List TRunner) (c_2 : Int) (k_8 : Unit → Option (Int)) : Nat → Int → Option (Int)
  | 0, _ => none
  | n_6 + 1, v_5 =>
    bif decide (v_5 < (((s_1).length : Int))) then
     (idx s_1 v_5).bind fun x_10 =>
     (M35 x_10 c_2).bind fun r_11 =>
     bif r_11 then some v_5 else
     (M36 s_1 c_2 k_8 n_6) ((w64 (v_5 + 1)))
    else
    k_8 ()
def M37 (_ : Unit) : Option (Int) :=
 some (-1)
def M38 (s_1 : List TRunner) (c_2 : Int) : Option (Int) :=
 M36 s_1 c_2 M37 (((((s_1).length : Int)) - 0 : Int).toNat + 1) 0
def M39 (s_1 : List TRunner) (c_2 : Int) : Option (Bool) :=
 (M38 s_1 c_2).bind fun r_4 =>
 some (decide (r_4 ≥ 0))
def M40 (f_1 : TField) (k_7 : Unit → Option (Bool)) : Nat → Int → Option (Bool)
  | 0, _ => none
  | n_5 + 1, v_4 =>
    bif decide (v_4 < (w64 ((((f_1.Pairs).length : Int)) + 1))) then
     (M39 f_1.Runners v_4).bind fun r_9 =>
     bif !r_9 then some true else
     (M40 f_1 k_7 n_5) ((w64 (v_4 + 1)))
    else
    k_7 ()
def M41 (_ : Unit) : Option (Bool) :=
 some false
def M42 (f_1 : TField) : Option (Bool) :=
 M40 f_1 M41 (((w64 ((((f_1.Pairs).length : Int)) + 1)) - 0 : Int).toNat + 1) 0
def M43 (f_1 : TField) (k_19 : Unit → Option (Int)) : Nat → Int → Int → Int → Option (Int)
  | 0, _, _, _ => none
  | n_17 + 1, v_14, v_15, v_16 =>
    bif decide (v_14 < (((f_1.Pairs).length : Int))) then
     (idx f_1.Pairs v_14).bind fun x_21 =>
     bif (decide (x_21.A < 1)) || ((decide (x_21.A ≥ x_21.B)) || ((decide (x_21.B > 9999)) || ((decide (x_21.A < v_15)) || ((x_21.A == v_15) && (decide (x_21.B ≤ v_16)))))) then some 240 else
     (M43 f_1 k_19 n_17) ((w64 (v_14 + 1))) x_21.A x_21.B
    else
    k_19 ()
def M44 (f_1 : TField) (r_45 : List TOutcome) (k_51 : Unit → Option (Int)) : Nat → Int → Option (Int)
  | 0, _ => none
  | n_49 + 1, v_48 =>
    bif decide (v_48 < (((r_45).length : Int))) then
     (idx r_45 v_48).bind fun x_53 =>
     (M34 f_1.Clocks x_53).bind fun r_54 =>
     bif r_54 != 0 then some 240 else
     (M44 f_1 r_45 k_51 n_49) ((w64 (v_48 + 1)))
    else
    k_51 ()
def M45 (v_32 : Int) (nx_34 : Int → Int → Option (Int)) (x_37 : TRunner) (_ : Unit) : Option (Int) :=
 nx_34 x_37.Bib ((w64 (v_32 + 1)))
def M46 (f_1 : TField) (k_35 : Unit → Option (Int)) : Nat → Int → Int → Option (Int)
  | 0, _, _ => none
  | n_33 + 1, bib_31, v_32 =>
    bif decide (v_32 < (((f_1.Runners).length : Int))) then
     (idx f_1.Runners v_32).bind fun x_37 =>
     Option.bind (
      bif decide (x_37.Bib ≤ bib_31) then some true else
      bif decide (x_37.Bib > 9999) then some true else
      (idx f_1.Runners 0).bind fun x_42 =>
      bif (((x_37.Keys).length : Int)) != (((x_42.Keys).length : Int)) then some true else
      some ((((x_37.Worlds).length : Int)) != (w64 ((((f_1.Pairs).length : Int)) + 1)))
     ) fun v_38 =>
     bif v_38 then some 240 else
     (M32 x_37.Worlds).bind fun r_45 =>
     M44 f_1 r_45 (M45 v_32 (M46 f_1 k_35 n_33) x_37) (((((r_45).length : Int)) - 0 : Int).toNat + 1) 0
    else
    k_35 ()
def M47 (f_1 : TField) (_ : Unit) : Option (Int) :=
 (M42 f_1).bind fun r_57 =>
 bif !r_57 then some 240 else
 some 0
def M48 (f_1 : TField) (_ : Unit) : Option (Int) :=
 M46 f_1 (M47 f_1) (((((f_1.Runners).length : Int)) - 0 : Int).toNat + 1) 0 0
def M49 (f_1 : TField) : Option (Int) :=
 Option.bind (
  (M28 f_1.Clocks).bind fun r_5 =>
  bif r_5 != 0 then some true else
  bif decide ((((f_1.Pairs).length : Int)) > 16) then some true else
  bif decide ((((f_1.Runners).length : Int)) < 1) then some true else
  some (decide ((((f_1.Runners).length : Int)) > 4000))
 ) fun v_3 =>
 bif v_3 then some 240 else
 M43 f_1 (M48 f_1) (((((f_1.Pairs).length : Int)) - 0 : Int).toNat + 1) 0 0 0
def M50 (r_1 : TRunner) (c_2 : Int) : Option (Bool) :=
 some (r_1.Bib == c_2)
def M51 (s_1 : List TRunner) (c_2 : Int) (k_8 : Unit → Option (Int)) : Nat → Int → Option (Int)
  | 0, _ => none
  | n_6 + 1, v_5 =>
    bif decide (v_5 < (((s_1).length : Int))) then
     (idx s_1 v_5).bind fun x_10 =>
     (M50 x_10 c_2).bind fun r_11 =>
     bif r_11 then some v_5 else
     (M51 s_1 c_2 k_8 n_6) ((w64 (v_5 + 1)))
    else
    k_8 ()
def M52 (_ : Unit) : Option (Int) :=
 some (-1)
def M53 (s_1 : List TRunner) (c_2 : Int) : Option (Int) :=
 M51 s_1 c_2 M52 (((((s_1).length : Int)) - 0 : Int).toNat + 1) 0
def M54 (f_1 : TField) (bib_2 : Int) : Option (Int × Bool) :=
 (M53 f_1.Runners bib_2).bind fun r_5 =>
 some ((maxG r_5 0), (decide (r_5 ≥ 0)))
def M55 (x_1 : TRunner) (c_2 : Int) : Option (Bool) :=
 bif decide (c_2 ≥ (((x_1.Worlds).length : Int))) then some true else
 (idx x_1.Worlds c_2).bind fun x_5 =>
 some ((((x_5).length : Int)) == 0)
def M56 (s_1 : List TRunner) (c_2 : Int) (k_8 : Unit → Option (Int)) : Nat → Int → Option (Int)
  | 0, _ => none
  | n_6 + 1, v_5 =>
    bif decide (v_5 < (((s_1).length : Int))) then
     (idx s_1 v_5).bind fun x_10 =>
     (M55 x_10 c_2).bind fun r_11 =>
     bif r_11 then some v_5 else
     (M56 s_1 c_2 k_8 n_6) ((w64 (v_5 + 1)))
    else
    k_8 ()
def M57 (_ : Unit) : Option (Int) :=
 some (-1)
def M58 (s_1 : List TRunner) (c_2 : Int) : Option (Int) :=
 M56 s_1 c_2 M57 (((((s_1).length : Int)) - 0 : Int).toNat + 1) 0
def M59 (s_1 : List TRunner) (c_2 : Int) : Option (Bool) :=
 (M58 s_1 c_2).bind fun r_4 =>
 some (decide (r_4 ≥ 0))
def M60 (k_1 : TClocks) (seg_2 : Int) (x_3 : TSpan) : Option (TSpan) :=
 bif seg_2 == (-1) then some x_3 else
 (idx k_1.Far (w64 (seg_2 + 1))).bind fun x_6 =>
 (idx x_6 0).bind fun x_7 =>
 (idx k_1.Far 0).bind fun x_8 =>
 (idx x_8 (w64 (seg_2 + 1))).bind fun x_9 =>
 some ({ Lo := (w64 (x_3.Lo - x_7)), Hi := (w64 (x_3.Hi + x_9)) } : TSpan)
def M61 (k_1 : TClocks) (x_2 : TOutcome) : Option (TSpan × Int) :=
 (M34 k_1 x_2).bind fun r_5 =>
 bif r_5 != 0 then some (({ Lo := 0, Hi := 0 } : TSpan), r_5) else
 bif x_2.Out then some (({ Lo := 0, Hi := 0 } : TSpan), 230) else
 (M60 k_1 x_2.Seg ({ Lo := x_2.Lo, Hi := x_2.Hi } : TSpan)).bind fun r_9 =>
 some (r_9, 0)
def M62 (f_1 : TField) (x_23 : List TOutcome) : Nat → Int → Int → Int → Bool → Bool → Option (Int × Int × Bool × Bool)
  | 0, _, _, _, _, _ => none
  | n_37 + 1, v_32, v_33, v_34, v_35, v_36 =>
    bif decide (v_32 < (((x_23).length : Int))) then
     (idx x_23 v_32).bind fun x_45 =>
     (M61 f_1.Clocks x_45).bind fun (r_46, r_47) =>
     bif x_45.Out || (r_47 != 0) then (M62 f_1 x_23 n_37) ((w64 (v_32 + 1))) v_33 v_34 v_35 false else
     bif !v_35 then (M62 f_1 x_23 n_37) ((w64 (v_32 + 1))) r_46.Lo r_46.Hi true v_36 else
     (M62 f_1 x_23 n_37) ((w64 (v_32 + 1))) (minG v_33 r_46.Lo) (maxG v_34 r_46.Hi) v_35 v_36
    else
    some (v_33, v_34, v_35, v_36)
def M63 (f_1 : TField) (x_4 : TRunner) : Nat → Int → Int → Int → Bool → Bool → Option (Int × Int × Bool × Bool)
  | 0, _, _, _, _, _ => none
  | n_15 + 1, v_10, v_11, v_12, v_13, v_14 =>
    bif decide (v_10 < (((x_4.Worlds).length : Int))) then
     (idx x_4.Worlds v_10).bind fun x_23 =>
     (M59 f_1.Runners v_10).bind fun r_24 =>
     bif r_24 then (M63 f_1 x_4 n_15) ((w64 (v_10 + 1))) v_11 v_12 v_13 v_14 else
     (M62 f_1 x_23 (((((x_23).length : Int)) - 0 : Int).toNat + 1) 0 v_11 v_12 v_13 v_14).bind fun (v_38, v_39, v_40, v_41) =>
     (M63 f_1 x_4 n_15) ((w64 (v_10 + 1))) v_38 v_39 v_40 v_41
    else
    some (v_11, v_12, v_13, v_14)
def M64 (f_1 : TField) (runner_2 : Int) : Option (Tteams_member) :=
 (idx f_1.Runners runner_2).bind fun x_4 =>
 (M63 f_1 x_4 (((((x_4.Worlds).length : Int)) - 0 : Int).toNat + 1) 0 0 0 false true).bind fun (v_16, v_17, v_18, v_19) =>
 some ({ Span := ({ Lo := v_16, Hi := v_17 } : TSpan), can := v_18, sure := (v_19 && v_18) } : Tteams_member)
def M65 (slices_1 : List (List Tteams_member)) : Nat → Int → Int → Option (Int)
  | 0, _, _ => none
  | n_7 + 1, size_5, v_6 =>
    bif decide (v_6 < (((slices_1).length : Int))) then
     (idx slices_1 v_6).bind fun x_12 =>
     bif decide ((w64 (size_5 + (((x_12).length : Int)))) < 0) then none else
     (M65 slices_1 n_7) ((w64 (size_5 + (((x_12).length : Int))))) ((w64 (v_6 + 1)))
    else
    some size_5
def M66 (slices_1 : List (List Tteams_member)) : Nat → Int → (List Tteams_member) → Option (List Tteams_member)
  | 0, _, _ => none
  | n_23 + 1, v_21, l_22 =>
    bif decide (v_21 < (((slices_1).length : Int))) then
     (idx slices_1 v_21).bind fun x_28 =>
     (app 24 l_22 x_28).bind fun l_29 =>
     (M66 slices_1 n_23) ((w64 (v_21 + 1))) l_29
    else
    some l_22
def M67 (slices_1 : List (List Tteams_member)) : Nat → Int → (List Tteams_member) → Option (List Tteams_member)
  | 0, _, _ => none
  | n_35 + 1, v_33, l_34 =>
    bif decide (v_33 < (((slices_1).length : Int))) then
     (idx slices_1 v_33).bind fun x_40 =>
     (app 24 l_34 x_40).bind fun l_41 =>
     (M67 slices_1 n_35) ((w64 (v_33 + 1))) l_41
    else
    some l_34
def M68 (slices_1 : List (List Tteams_member)) : Option (List Tteams_member) :=
 (M65 slices_1 (((((slices_1).length : Int)) - 0 : Int).toNat + 1) 0 0).bind fun size_8 =>
 bif decide (size_8 < 0) then none else
 bif decide ((w64 (size_8 - 0)) > 0) then
  (mkZ 24 (w64 (size_8 - 0))).bind fun n_17 =>
  (slcTo (List.replicate n_17 ({ Span := ({ Lo := 0, Hi := 0 } : TSpan), can := false, sure := false } : Tteams_member)) 0).bind fun l_18 =>
  (M66 slices_1 (((((slices_1).length : Int)) - 0 : Int).toNat + 1) 0 l_18).bind fun l_24 =>
  some l_24
 else
 (M67 slices_1 (((((slices_1).length : Int)) - 0 : Int).toNat + 1) 0 ((([] : List Tteams_member)))).bind fun l_36 =>
 some l_36
def M69 (l_1 : List Tteams_member) : Option (List Tteams_member) :=
  if l_1.length < 4611686018427387904 then some (Sort.pdq (fun x y => decide (Lib.compareInt x.Span.Lo y.Span.Lo < 0)) l_1.toArray 0 l_1.length (Lib.bitLen l_1.length) true true).toList else none
def M70 (m_1 : Tteams_member) : Option (Int) :=
 some m_1.Span.Lo
def M71 (l_26 : List Tteams_member) : Nat → Int → Int → Option (Int)
  | 0, _, _ => none
  | n_31 + 1, sum_29, v_30 =>
    bif decide (v_30 < (((l_26).length : Int))) then
     (idx l_26 v_30).bind fun x_36 =>
     (M70 x_36).bind fun r_37 =>
     (M71 l_26 n_31) ((w64 (sum_29 + r_37))) ((w64 (v_30 + 1)))
    else
    some sum_29
def M72 (l_1 : List Tteams_member) (n_2 : Int) : Option (Int) :=
 (app 24 (([] : List Tteams_member)) l_1).bind fun l_22 =>
 (M69 l_22).bind fun l_23 =>
 (lenIs l_23 l_22).bind fun _ =>
 (slcTo l_23 n_2).bind fun l_26 =>
 (M71 l_26 (((((l_26).length : Int)) - 0 : Int).toNat + 1) 0 0).bind fun sum_32 =>
 some sum_32
def M73 (l_1 : List Tteams_member) : Option (List Tteams_member) :=
  if l_1.length < 4611686018427387904 then some (Sort.pdq (fun x y => decide (Lib.compareInt x.Span.Hi y.Span.Hi < 0)) l_1.toArray 0 l_1.length (Lib.bitLen l_1.length) true true).toList else none
def M74 (m_1 : Tteams_member) : Option (Int) :=
 some m_1.Span.Hi
def M75 (l_26 : List Tteams_member) : Nat → Int → Int → Option (Int)
  | 0, _, _ => none
  | n_31 + 1, sum_29, v_30 =>
    bif decide (v_30 < (((l_26).length : Int))) then
     (idx l_26 v_30).bind fun x_36 =>
     (M74 x_36).bind fun r_37 =>
     (M75 l_26 n_31) ((w64 (sum_29 + r_37))) ((w64 (v_30 + 1)))
    else
    some sum_29
def M76 (l_1 : List Tteams_member) (n_2 : Int) : Option (Int) :=
 (app 24 (([] : List Tteams_member)) l_1).bind fun l_22 =>
 (M73 l_22).bind fun l_23 =>
 (lenIs l_23 l_22).bind fun _ =>
 (slcTo l_23 n_2).bind fun l_26 =>
 (M75 l_26 (((((l_26).length : Int)) - 0 : Int).toNat + 1) 0 0).bind fun sum_32 =>
 some sum_32
def M77 (l_1 : List Tteams_member) : Option (List Tteams_member) :=
  if l_1.length < 4611686018427387904 then some (Sort.pdq (fun x y => decide (Lib.compareInt y.Span.Hi x.Span.Hi < 0)) l_1.toArray 0 l_1.length (Lib.bitLen l_1.length) true true).toList else none
def M78 (l_26 : List Tteams_member) : Nat → Int → Int → Option (Int)
  | 0, _, _ => none
  | n_31 + 1, sum_29, v_30 =>
    bif decide (v_30 < (((l_26).length : Int))) then
     (idx l_26 v_30).bind fun x_36 =>
     (M74 x_36).bind fun r_37 =>
     (M78 l_26 n_31) ((w64 (sum_29 + r_37))) ((w64 (v_30 + 1)))
    else
    some sum_29
def M79 (l_1 : List Tteams_member) (n_2 : Int) : Option (Int) :=
 (app 24 (([] : List Tteams_member)) l_1).bind fun l_22 =>
 (M77 l_22).bind fun l_23 =>
 (lenIs l_23 l_22).bind fun _ =>
 (slcTo l_23 n_2).bind fun l_26 =>
 (M78 l_26 (((((l_26).length : Int)) - 0 : Int).toNat + 1) 0 0).bind fun sum_32 =>
 some sum_32
def M80 (f_1 : TField) (t_2 : TTeam) (k_21 : (List Tteams_member) → (List Tteams_member) → Option (TTotal × Int)) : Nat → Int → (List Tteams_member) → (List Tteams_member) → Option (TTotal × Int)
  | 0, _, _, _ => none
  | n_17 + 1, v_14, l_15, l_16 =>
    bif decide (v_14 < (((t_2.Bibs).length : Int))) then
     (idx t_2.Bibs v_14).bind fun x_23 =>
     (M54 f_1 x_23).bind fun (r_24, r_25) =>
     bif !r_25 then some (({ Bib := 0, Sums := (([] : List TSpan)), Out := false } : TTotal), 250) else
     (M64 f_1 r_24).bind fun r_28 =>
     bif r_28.sure then
      (app 24 l_15 (([r_28] : List Tteams_member))).bind fun l_31 =>
      (M80 f_1 t_2 k_21 n_17) ((w64 (v_14 + 1))) l_31 l_16
     else
     bif r_28.can then
      (app 24 l_16 (([r_28] : List Tteams_member))).bind fun l_33 =>
      (M80 f_1 t_2 k_21 n_17) ((w64 (v_14 + 1))) l_15 l_33
     else
     (M80 f_1 t_2 k_21 n_17) ((w64 (v_14 + 1))) l_15 l_16
    else
    k_21 l_15 l_16
def M81 (t_2 : TTeam) (l_18 : List Tteams_member) (l_19 : List Tteams_member) : Option (TTotal × Int) :=
 (M68 ((([l_18, l_19] : List (List Tteams_member))))).bind fun r_34 =>
 bif decide ((((r_34).length : Int)) < t_2.Best) then some (({ Bib := 0, Sums := (([] : List TSpan)), Out := (decide ((((l_18).length : Int)) < t_2.Best)) } : TTotal), 0) else
 (M72 r_34 t_2.Best).bind fun r_37 =>
 bif decide ((((l_18).length : Int)) < t_2.Best) then
  (M76 l_18 ((((l_18).length : Int)))).bind fun r_40 =>
  (M79 l_19 ((w64 (t_2.Best - (((l_18).length : Int)))))).bind fun r_42 =>
  some (({ Bib := 0, Sums := (([({ Lo := r_37, Hi := (w64 (r_40 + r_42)) } : TSpan)] : List TSpan)), Out := (decide ((((l_18).length : Int)) < t_2.Best)) } : TTotal), 0)
 else
 (M76 l_18 t_2.Best).bind fun r_44 =>
 some (({ Bib := 0, Sums := (([({ Lo := r_37, Hi := r_44 } : TSpan)] : List TSpan)), Out := (decide ((((l_18).length : Int)) < t_2.Best)) } : TTotal), 0)
def M82 (f_1 : TField) (t_2 : TTeam) : Option (TTotal × Int) :=
 (M4 t_2).bind fun r_5 =>
 bif !r_5 then some (({ Bib := 0, Sums := (([] : List TSpan)), Out := false } : TTotal), 340) else
 (M49 f_1).bind fun r_8 =>
 bif r_8 != 0 then some (({ Bib := 0, Sums := (([] : List TSpan)), Out := false } : TTotal), r_8) else
 M80 f_1 t_2 (M81 t_2) (((((t_2.Bibs).length : Int)) - 0 : Int).toNat + 1) 0 ((([] : List Tteams_member))) ((([] : List Tteams_member)))
def M83 (x_15 : TTeam) (k_27 : (List (Int × Bool)) → Option (Int)) : Nat → Int → (List (Int × Bool)) → Option (Int)
  | 0, _, _ => none
  | n_24 + 1, v_22, m_23 =>
    bif decide (v_22 < (((x_15.Bibs).length : Int))) then
     (idx x_15.Bibs v_22).bind fun x_29 =>
     bif mapGet m_23 x_29 false then some 340 else
     (M83 x_15 k_27 n_24) ((w64 (v_22 + 1))) (mapPut m_23 x_29 true)
    else
    k_27 m_23
def M84 (v_8 : Int) (m_9 : List (ByteArray × Bool)) (nx_12 : Int → (List (ByteArray × Bool)) → (List (Int × Bool)) → Option (Int)) (x_15 : TTeam) (m_25 : List (Int × Bool)) : Option (Int) :=
 nx_12 ((w64 (v_8 + 1))) (mapPut m_9 x_15.Name true) m_25
def M85 (l_1 : List TTeam) (k_13 : Unit → Option (Int)) : Nat → Int → (List (ByteArray × Bool)) → (List (Int × Bool)) → Option (Int)
  | 0, _, _, _ => none
  | n_11 + 1, v_8, m_9, m_10 =>
    bif decide (v_8 < (((l_1).length : Int))) then
     (idx l_1 v_8).bind fun x_15 =>
     (M4 x_15).bind fun r_16 =>
     bif !r_16 then some 340 else
     bif mapGet m_9 x_15.Name false then some 340 else
     M83 x_15 (M84 v_8 m_9 (M85 l_1 k_13 n_11) x_15) (((((x_15.Bibs).length : Int)) - 0 : Int).toNat + 1) 0 m_10
    else
    k_13 ()
def M86 (_ : Unit) : Option (Int) :=
 some 0
def M87 (l_1 : List TTeam) : Option (Int) :=
 bif decide ((((l_1).length : Int)) < 1) then some 340 else
 bif decide ((((l_1).length : Int)) > 64) then some 340 else
 M85 l_1 M86 (((((l_1).length : Int)) - 0 : Int).toNat + 1) 0 ((([] : List (ByteArray × Bool)))) ((([] : List (Int × Bool))))
def M88 (f_1 : TField) (l_2 : List TTeam) (k_19 : (List TTotal) → Option (Int × Int × Int)) : Nat → Int → (List TTotal) → Option (Int × Int × Int)
  | 0, _, _ => none
  | n_16 + 1, v_14, l_15 =>
    bif decide (v_14 < (((l_2).length : Int))) then
     (idx l_2 v_14).bind fun x_21 =>
     (M82 f_1 x_21).bind fun (r_22, r_23) =>
     bif r_23 != 0 then some (0, 0, r_23) else
     (app 40 l_15 (([r_22] : List TTotal))).bind fun l_26 =>
     (M88 f_1 l_2 k_19 n_16) ((w64 (v_14 + 1))) l_26
    else
    k_19 l_15
def M89 (at_3 : Int) (l_17 : List TTotal) (x_30 : TSpan) : Nat → Int → Int → Int → Option (Int × Int)
  | 0, _, _, _ => none
  | n_37 + 1, least_34, greatest_35, v_36 =>
    bif decide (v_36 < (((l_17).length : Int))) then
     Option.bind (
      (idx l_17 v_36).bind fun x_46 =>
      bif v_36 == at_3 then some (least_34, greatest_35) else
      bif (((x_46.Sums).length : Int)) == 0 then some (least_34, greatest_35) else
      bif !x_46.Out then
       (idx x_46.Sums 0).bind fun x_50 =>
       bif decide (x_50.Hi < x_30.Lo) then
        (idx x_46.Sums 0).bind fun x_52 =>
        bif decide (x_52.Lo < x_30.Hi) then some ((w64 (least_34 + 1)), (w64 (greatest_35 + 1))) else
        some ((w64 (least_34 + 1)), greatest_35)
       else
       (idx x_46.Sums 0).bind fun x_54 =>
       bif decide (x_54.Lo < x_30.Hi) then some (least_34, (w64 (greatest_35 + 1))) else
       some (least_34, greatest_35)
      else
      (idx x_46.Sums 0).bind fun x_56 =>
      bif decide (x_56.Lo < x_30.Hi) then some (least_34, (w64 (greatest_35 + 1))) else
      some (least_34, greatest_35)
     ) fun (least_43, greatest_44) =>
     (M89 at_3 l_17 x_30 n_37) least_43 greatest_44 ((w64 (v_36 + 1)))
    else
    some (least_34, greatest_35)
def M90 (at_3 : Int) (l_17 : List TTotal) : Option (Int × Int × Int) :=
 (idx l_17 at_3).bind fun x_27 =>
 bif (((x_27.Sums).length : Int)) == 0 then some (0, 0, 0) else
 (idx l_17 at_3).bind fun x_29 =>
 (idx x_29.Sums 0).bind fun x_30 =>
 (M89 at_3 l_17 x_30 (((((l_17).length : Int)) - 0 : Int).toNat + 1) 1 1 0).bind fun (least_38, greatest_39) =>
 some (least_38, greatest_39, 0)
def M91 (f_1 : TField) (l_2 : List TTeam) (at_3 : Int) : Option (Int × Int × Int) :=
 (M87 l_2).bind fun r_7 =>
 bif r_7 != 0 then some (0, 0, r_7) else
 bif decide (at_3 < 0) then some (0, 0, 1) else
 bif decide (at_3 ≥ (((l_2).length : Int))) then some (0, 0, 1) else
 M88 f_1 l_2 (M90 at_3) (((((l_2).length : Int)) - 0 : Int).toNat + 1) 0 ((([] : List TTotal)))
def M92 (x_1 : Int) : Option (ByteArray) :=
  if -9223372036854775808 ≤ x_1 ∧ x_1 ≤ 9223372036854775807 then some ⟨(Lib.itoa x_1).toArray⟩ else none
def grp34 (gs : List (Int × List Int)) (s : TStarter) : List (Int × List Int) :=
  bif decide (s.Team > 0) && (decide (s.Bib ≥ 1) && decide (s.Bib ≤ 9999)) then mapPut gs s.Team (mapGet gs s.Team [] ++ [s.Bib]) else gs
def M93 (best_2 : Int) (gs : List (Int × List Int)) : List Int → List TTeam → Option (List TTeam)
  | [], l => some l
  | k :: ks, l =>
    (M92 k).bind fun s =>
    (M4 ⟨s, Lib.compact ((mapGet gs k []).mergeSort fun x y => decide (x ≤ y)), best_2⟩).bind fun b =>
    M93 best_2 gs ks (bif b then l ++ [⟨s, Lib.compact ((mapGet gs k []).mergeSort fun x y => decide (x ≤ y)), best_2⟩] else l)
def M94 (x_1 : List TStarter) (best_2 : Int) : Option (List TTeam) :=
  if x_1.length ≤ 1000 ∧ ∀ s ∈ x_1, -9223372036854775808 ≤ s.Team ∧ s.Team ≤ 9223372036854775807 then
    M93 best_2 (x_1.foldl grp34 []) (((x_1.foldl grp34 []).map (·.1)).mergeSort fun x y => decide (x ≤ y)) []
  else none
def M95 (a_1 : List TSpan) (b_2 : List TSpan) (k_9 : Unit → Option (Bool)) : Nat → Int → Option (Bool)
  | 0, _ => none
  | n_7 + 1, i_6 =>
    bif decide (i_6 < (((a_1).length : Int))) then
     (idx a_1 i_6).bind fun x_11 =>
     (idx b_2 i_6).bind fun x_12 =>
     bif !((x_11.Lo == x_12.Lo) && ((x_11.Hi == x_12.Hi) && true)) then some false else
     (M95 a_1 b_2 k_9 n_7) ((w64 (i_6 + 1)))
    else
    k_9 ()
def M96 (_ : Unit) : Option (Bool) :=
 some true
def M97 (a_1 : List TSpan) (b_2 : List TSpan) : Option (Bool) :=
 bif (((a_1).length : Int)) != (((b_2).length : Int)) then some false else
 M95 a_1 b_2 M96 (((((a_1).length : Int)) - 0 : Int).toNat + 1) 0
def M98 (a_1 : TTotal) (b_2 : TTotal) : Option (Bool) :=
 bif a_1.Bib == b_2.Bib then
  bif a_1.Out == b_2.Out then
   (M97 a_1.Sums b_2.Sums).bind fun r_6 =>
   some r_6
  else
  some false
 else
 some false
def M99 (a_1 : List Int) (b_2 : List Int) (k_9 : Unit → Option (Bool)) : Nat → Int → Option (Bool)
  | 0, _ => none
  | n_7 + 1, i_6 =>
    bif decide (i_6 < (((a_1).length : Int))) then
     (idx a_1 i_6).bind fun x_11 =>
     (idx b_2 i_6).bind fun x_12 =>
     bif x_11 != x_12 then some false else
     (M99 a_1 b_2 k_9 n_7) ((w64 (i_6 + 1)))
    else
    k_9 ()
def M100 (_ : Unit) : Option (Bool) :=
 some true
def M101 (a_1 : List Int) (b_2 : List Int) : Option (Bool) :=
 bif (((a_1).length : Int)) != (((b_2).length : Int)) then some false else
 M99 a_1 b_2 M100 (((((a_1).length : Int)) - 0 : Int).toNat + 1) 0
def M102 (a_1 : List TTeam) (b_2 : List TTeam) (k_9 : Unit → Option (Bool)) : Nat → Int → Option (Bool)
  | 0, _ => none
  | n_7 + 1, i_6 =>
    bif decide (i_6 < (((a_1).length : Int))) then
     (idx a_1 i_6).bind fun x_11 =>
     (idx b_2 i_6).bind fun x_12 =>
     bif !(((x_11.Name.toList == x_12.Name.toList) : Bool)) then some false else
     (idx a_1 i_6).bind fun x_14 =>
     (idx b_2 i_6).bind fun x_15 =>
     bif x_14.Best != x_15.Best then some false else
     (idx a_1 i_6).bind fun x_17 =>
     (idx b_2 i_6).bind fun x_18 =>
     (M101 x_17.Bibs x_18.Bibs).bind fun r_19 =>
     bif !r_19 then some false else
     (M102 a_1 b_2 k_9 n_7) ((w64 (i_6 + 1)))
    else
    k_9 ()
def M103 (_ : Unit) : Option (Bool) :=
 some true
def M104 (a_1 : List TTeam) (b_2 : List TTeam) : Option (Bool) :=
 bif (((a_1).length : Int)) != (((b_2).length : Int)) then some false else
 M102 a_1 b_2 M103 (((((a_1).length : Int)) - 0 : Int).toNat + 1) 0
def M105 : Option (Bool) :=
 (M1).bind fun r_2 =>
 (M82 r_2 (({ Name := ((ByteArray.mk #[97])), Bibs := (([1, 2, 3] : List Int)), Best := 2 } : TTeam))).bind fun (r_4, r_5) =>
 (M1).bind fun r_7 =>
 (M82 r_7 (({ Name := ((ByteArray.mk #[98])), Bibs := (([5] : List Int)), Best := 1 } : TTeam))).bind fun (r_9, r_10) =>
 (M1).bind fun r_12 =>
 (M91 r_12 ((([({ Name := ((ByteArray.mk #[97])), Bibs := (([1, 2, 3] : List Int)), Best := 2 } : TTeam)] : List TTeam))) 0).bind fun (r_14, r_15, r_16) =>
 (M94 ((([({ Bib := 3, Distance := 0, Wave := 0, Slot := 0, Age := 0, Chip := 0, Team := 12, Lot := 0 } : TStarter), ({ Bib := 1, Distance := 0, Wave := 0, Slot := 0, Age := 0, Chip := 0, Team := 12, Lot := 0 } : TStarter)] : List TStarter))) 2).bind fun r_18 =>
 Option.bind (
  bif r_5 != 0 then some true else
  bif r_10 != 250 then some true else
  bif r_16 != 0 then some true else
  bif r_14 != 1 then some true else
  bif r_15 != 1 then some true else
  (M98 r_4 (({ Bib := 0, Sums := (([({ Lo := 30, Hi := 30 } : TSpan)] : List TSpan)), Out := false } : TTotal))).bind fun r_27 =>
  some (!r_27)
 ) fun v_20 =>
 bif v_20 then some false else
 Option.bind (
  (M87 ((([] : List TTeam)))).bind fun r_32 =>
  bif r_32 == 340 then
   (M87 ((([({ Name := ((ByteArray.mk #[97])), Bibs := (([1, 2] : List Int)), Best := 2 } : TTeam)] : List TTeam)))).bind fun r_35 =>
   bif r_35 == 0 then
    (M94 ((([] : List TStarter))) 3).bind fun r_38 =>
    bif (((r_38).length : Int)) == 0 then
     (M104 r_18 ((([({ Name := ((ByteArray.mk #[49, 50])), Bibs := (([1, 3] : List Int)), Best := 2 } : TTeam)] : List TTeam)))).bind fun r_41 =>
     bif r_41 then
      (M94 ((([({ Bib := 3, Distance := 0, Wave := 0, Slot := 0, Age := 0, Chip := 0, Team := 12, Lot := 0 } : TStarter)] : List TStarter))) 2).bind fun r_44 =>
      some ((((r_44).length : Int)) == 0)
     else
     some false
    else
    some false
   else
   some false
  else
  some false
 ) fun v_30 =>
 some v_30
def M106 (t_1 : TTeam) (k_14 : Unit → Option (Bool)) : Nat → Int → Option (Bool)
  | 0, _ => none
  | n_12 + 1, i_11 =>
    bif decide (i_11 < (((t_1.Bibs).length : Int))) then
     Option.bind (
      (idx t_1.Bibs i_11).bind fun x_18 =>
      bif decide (x_18 < 1) then some true else
      (idx t_1.Bibs i_11).bind fun x_20 =>
      bif decide (x_20 > 9999) then some true else
      bif decide (i_11 > 0) then
       (idx t_1.Bibs i_11).bind fun x_23 =>
       (idx t_1.Bibs (w64 (i_11 - 1))).bind fun x_24 =>
       some (decide (x_23 ≤ x_24))
      else
      some false
     ) fun v_16 =>
     bif v_16 then some false else
     (M106 t_1 k_14 n_12) ((w64 (i_11 + 1)))
    else
    k_14 ()
def M107 (_ : Unit) : Option (Bool) :=
 some true
def M108 (t_1 : TTeam) : Option (Bool) :=
 bif (decide ((((t_1.Name.size : Nat) : Int)) < 1)) || ((decide ((((t_1.Name.size : Nat) : Int)) > 24)) || ((decide ((((t_1.Bibs).length : Int)) < 1)) || ((decide ((((t_1.Bibs).length : Int)) > 16)) || ((decide (t_1.Best < 1)) || (decide (t_1.Best > (((t_1.Bibs).length : Int)))))))) then some false else
 M106 t_1 M107 (((((t_1.Bibs).length : Int)) - 0 : Int).toNat + 1) 0
def M109 (l_1 : List Int) (n_2 : Int) (k_8 : Unit → Option (Bool)) : Nat → Int → Option (Bool)
  | 0, _ => none
  | n_6 + 1, i_5 =>
    bif decide (i_5 < (((l_1).length : Int))) then
     (idx l_1 i_5).bind fun x_10 =>
     bif x_10 == n_2 then some true else
     (M109 l_1 n_2 k_8 n_6) ((w64 (i_5 + 1)))
    else
    k_8 ()
def M110 (_ : Unit) : Option (Bool) :=
 some false
def M111 (l_1 : List Int) (n_2 : Int) : Option (Bool) :=
 M109 l_1 n_2 M110 (((((l_1).length : Int)) - 0 : Int).toNat + 1) 0
def M112 : Nat → Int → ByteArray → Option (ByteArray)
  | 0, _, _ => none
  | n_7 + 1, n_5, s_6 =>
    bif decide (n_5 > 0) then
     (catS (strOfNums (([(IntKind.wrap .u8 (48 + (IntKind.wrap .u8 (Int.tmod n_5 10))))] : List Int))) s_6).bind fun s_12 =>
     (M112 n_7) ((w64 (Int.tdiv n_5 10))) s_12
    else
    some s_6
def M113 (n_1 : Int) : Option (ByteArray) :=
 (M112 ((n_1 - 0 : Int).toNat + 1) n_1 (((ByteArray.mk #[])))).bind fun s_8 =>
 some s_8
def M114 (r_8 : List TTeam) (i_11 : Int) (k_26 : Unit → Option (Bool)) : Nat → Int → Option (Bool)
  | 0, _ => none
  | n_24 + 1, k_23 =>
    bif decide (k_23 < i_11) then
     (idx r_8 k_23).bind fun x_28 =>
     (idx r_8 i_11).bind fun x_29 =>
     bif ((x_28.Name.toList == x_29.Name.toList) : Bool) then some false else
     (M114 r_8 i_11 k_26 n_24) ((w64 (k_23 + 1)))
    else
    k_26 ()
def M115 (x_1 : List TStarter) (r_8 : List TTeam) (i_11 : Int) : Nat → Int → Int → Option (Int)
  | 0, _, _ => none
  | n_35 + 1, number_33, k_34 =>
    bif decide (k_34 < (((x_1).length : Int))) then
     Option.bind (
      (idx x_1 k_34).bind fun x_42 =>
      bif decide (x_42.Team > 0) then
       (idx x_1 k_34).bind fun x_44 =>
       (idx r_8 i_11).bind fun x_45 =>
       (idx x_45.Bibs 0).bind fun x_46 =>
       bif x_44.Bib == x_46 then
        (idx x_1 k_34).bind fun x_48 =>
        (M113 x_48.Team).bind fun r_49 =>
        (idx r_8 i_11).bind fun x_51 =>
        some (((r_49.toList == x_51.Name.toList) : Bool))
       else
       some false
      else
      some false
     ) fun v_40 =>
     bif v_40 then
      (idx x_1 k_34).bind fun x_53 =>
      (M115 x_1 r_8 i_11 n_35) x_53.Team ((w64 (k_34 + 1)))
     else
     (M115 x_1 r_8 i_11 n_35) number_33 ((w64 (k_34 + 1)))
    else
    some number_33
def M116 (x_1 : List TStarter) (r_8 : List TTeam) (i_11 : Int) (number_36 : Int) (k_60 : Unit → Option (Bool)) : Nat → Int → Option (Bool)
  | 0, _ => none
  | n_58 + 1, k_57 =>
    bif decide (k_57 < (((x_1).length : Int))) then
     Option.bind (
      (idx x_1 k_57).bind fun x_64 =>
      bif x_64.Team == number_36 then
       (idx x_1 k_57).bind fun x_66 =>
       bif decide (x_66.Bib ≥ 1) then
        (idx x_1 k_57).bind fun x_68 =>
        bif decide (x_68.Bib ≤ 9999) then
         (idx r_8 i_11).bind fun x_70 =>
         (idx x_1 k_57).bind fun x_71 =>
         (M111 x_70.Bibs x_71.Bib).bind fun r_72 =>
         some (!r_72)
        else
        some false
       else
       some false
      else
      some false
     ) fun v_62 =>
     bif v_62 then some false else
     (M116 x_1 r_8 i_11 number_36 k_60 n_58) ((w64 (k_57 + 1)))
    else
    k_60 ()
def M117 (i_11 : Int) (nx_13 : Int → Option (Bool)) (_ : Unit) : Option (Bool) :=
 nx_13 ((w64 (i_11 + 1)))
def M118 (x_1 : List TStarter) (r_8 : List TTeam) (i_11 : Int) (nx_13 : Int → Option (Bool)) (_ : Unit) : Option (Bool) :=
 (M115 x_1 r_8 i_11 (((((x_1).length : Int)) - 0 : Int).toNat + 1) 0 0).bind fun number_36 =>
 bif number_36 == 0 then some false else
 M116 x_1 r_8 i_11 number_36 (M117 i_11 nx_13) (((((x_1).length : Int)) - 0 : Int).toNat + 1) 0
def M119 (x_1 : List TStarter) (best_2 : Int) (r_8 : List TTeam) (k_14 : Unit → Option (Bool)) : Nat → Int → Option (Bool)
  | 0, _ => none
  | n_12 + 1, i_11 =>
    bif decide (i_11 < (((r_8).length : Int))) then
     (idx r_8 i_11).bind fun x_16 =>
     (M108 x_16).bind fun r_17 =>
     bif !r_17 then some false else
     (idx r_8 i_11).bind fun x_20 =>
     bif x_20.Best != best_2 then some false else
     M114 r_8 i_11 (M118 x_1 r_8 i_11 (M119 x_1 best_2 r_8 k_14 n_12)) ((i_11 - 0 : Int).toNat + 1) 0
    else
    k_14 ()
def M120 (_ : Unit) : Option (Bool) :=
 some true
def M121 (x_1 : List TStarter) (best_2 : Int) : Option (Bool) :=
 (M105).bind fun r_4 =>
 bif !r_4 then some false else
 bif decide ((((x_1).length : Int)) > 20) then some true else
 (M94 x_1 best_2).bind fun r_8 =>
 M119 x_1 best_2 r_8 M120 (((((r_8).length : Int)) - 0 : Int).toNat + 1) 0
end Go.Stop
