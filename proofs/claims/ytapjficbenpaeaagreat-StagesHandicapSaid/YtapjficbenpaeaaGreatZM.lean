/- Models of functions, by program (gen.py). No condition. -/
import Derived.Test.YtapjficbenpaeaaGreatZB7
import Derived.Lib.BitFns
namespace Go.Stop
open Go Go.Abs
set_option linter.unusedVariables false
structure TSegment where
  Mat : Int
  Epoch : Int
  Anchor : Int
  deriving DecidableEq, Inhabited
structure TClocks where
  Segments : List TSegment
  Far : List (List Int)
  deriving DecidableEq, Inhabited
structure TPair where
  A : Int
  B : Int
  deriving DecidableEq, Inhabited
structure TOutcome where
  Out : Bool
  Seg : Int
  Lo : Int
  Hi : Int
  deriving DecidableEq, Inhabited
structure TRunner where
  Bib : Int
  Keys : List Int
  Worlds : List (List TOutcome)
  deriving DecidableEq, Inhabited
structure TField where
  Clocks : TClocks
  Pairs : List TPair
  Runners : List TRunner
  deriving DecidableEq, Inhabited
structure TChoice where
  Outcome : Int
  X : Int
  deriving DecidableEq, Inhabited
structure THistory where
  World : Int
  Offsets : List Int
  Choices : List TChoice
  deriving DecidableEq, Inhabited
structure TSpan where
  Lo : Int
  Hi : Int
  deriving DecidableEq, Inhabited
structure TTotal where
  Bib : Int
  Sums : List TSpan
  Out : Bool
  deriving DecidableEq, Inhabited
structure Tclocks_place where
  mat : Int
  epoch : Int
  deriving DecidableEq, Inhabited
def eTSegment (x : TSegment) : D := .ag [(.i .i64 x.Mat), (.i .i64 x.Epoch), (.i .i64 x.Anchor)]
def eTClocks (x : TClocks) : D := .ag [(.ls (List.map eTSegment x.Segments)), (.ls (List.map (eL eI) x.Far))]
def eTPair (x : TPair) : D := .ag [(.i .i64 x.A), (.i .i64 x.B)]
def eTOutcome (x : TOutcome) : D := .ag [(.b x.Out), (.i .i64 x.Seg), (.i .i64 x.Lo), (.i .i64 x.Hi)]
def eTRunner (x : TRunner) : D := .ag [(.i .i64 x.Bib), (.ls (List.map eI x.Keys)), (.ls (List.map (eL eTOutcome) x.Worlds))]
def eTField (x : TField) : D := .ag [(.ls (List.map eTSegment x.Clocks.Segments)), (.ls (List.map (eL eI) x.Clocks.Far)), (.ls (List.map eTPair x.Pairs)), (.ls (List.map eTRunner x.Runners))]
def eTSpan (x : TSpan) : D := .ag [(.i .i64 x.Lo), (.i .i64 x.Hi)]
def eTTotal (x : TTotal) : D := .ag [(.i .i64 x.Bib), (.ls (List.map eTSpan x.Sums)), (.b x.Out)]
def eTclocks_place (x : Tclocks_place) : D := .ag [(.i .i64 x.mat), (.i .i64 x.epoch)]
def M1000 (lo_1 : Int) (hi_2 : Int) : Option (TOutcome) :=
 some ({ Out := false, Seg := (-1), Lo := lo_1, Hi := hi_2 } : TOutcome)
def M1001 (a_1 : List TOutcome) (b_2 : List TOutcome) : Option (TField) :=
 some ({ Clocks := ({ Segments := (([] : List TSegment)), Far := (([(([0] : List Int))] : List (List Int))) } : TClocks), Pairs := (([] : List TPair)), Runners := (([({ Bib := 1, Keys := (([] : List Int)), Worlds := (([a_1] : List (List TOutcome))) } : TRunner), ({ Bib := 2, Keys := (([] : List Int)), Worlds := (([b_2] : List (List TOutcome))) } : TRunner)] : List TRunner)) } : TField)
def M1002 (n_1 : Int) : Option (Bool) :=
 bif decide (n_1 ≥ (-1099511627776)) then some (decide (n_1 ≤ 1099511627776)) else
 some false
def M1003 (x_1 : Int) : Option (Bool) :=
 some (x_1 != x_1)
def M1004 (x_1 : Int) (y_2 : Int) : Option (Int) :=
 (M1003 x_1).bind fun r_4 =>
 (M1003 y_2).bind fun r_6 =>
 bif r_4 then
  bif r_6 then some 0 else
  some (-1)
 else
 bif r_6 then some 1 else
 bif decide (x_1 < y_2) then some (-1) else
 bif decide (x_1 > y_2) then some 1 else
 some 0
def M1005 (vals_1 : List Int) (k_7 : Unit → Option (Int)) : Nat → Int → Option (Int)
  | 0, _ => none
  | n_5 + 1, v_4 =>
    bif decide (v_4 < (((vals_1).length : Int))) then
     (idx vals_1 v_4).bind fun x_9 =>
     bif x_9 != 0 then some x_9 else
     (M1005 vals_1 k_7 n_5) ((w64 (v_4 + 1)))
    else
    k_7 ()
def M1006 (_ : Unit) : Option (Int) :=
 some 0
def M1007 (vals_1 : List Int) : Option (Int) :=
 M1005 vals_1 M1006 (((((vals_1).length : Int)) - 0 : Int).toNat + 1) 0
def M1008 (p_1 : Tclocks_place) (q_2 : Tclocks_place) : Option (Int) :=
 (M1004 p_1.mat q_2.mat).bind fun r_4 =>
 (M1004 p_1.epoch q_2.epoch).bind fun r_6 =>
 (M1007 ((([r_4, r_6] : List Int)))).bind fun r_8 =>
 some r_8
def M1009 (a_1 : TSegment) (b_2 : TSegment) : Option (Int) :=
 (M1008 ({ mat := a_1.Mat, epoch := a_1.Epoch } : Tclocks_place) ({ mat := b_2.Mat, epoch := b_2.Epoch } : Tclocks_place)).bind fun r_4 =>
 some r_4
def M1010 (w_1 : Int) : Option (Bool) :=
 bif decide (w_1 < (-2199023255552)) then some true else
 some (decide (w_1 > 2199023255552))
def M1011 (s_1 : List Int) (k_7 : Unit → Option (Int)) : Nat → Int → Option (Int)
  | 0, _ => none
  | n_5 + 1, v_4 =>
    bif decide (v_4 < (((s_1).length : Int))) then
     (idx s_1 v_4).bind fun x_9 =>
     (M1010 x_9).bind fun r_10 =>
     bif r_10 then some v_4 else
     (M1011 s_1 k_7 n_5) ((w64 (v_4 + 1)))
    else
    k_7 ()
def M1012 (_ : Unit) : Option (Int) :=
 some (-1)
def M1013 (s_1 : List Int) : Option (Int) :=
 M1011 s_1 M1012 (((((s_1).length : Int)) - 0 : Int).toNat + 1) 0
def M1014 (s_1 : List Int) : Option (Bool) :=
 (M1013 s_1).bind fun r_3 =>
 some (decide (r_3 ≥ 0))
def M1015 (k_1 : TClocks) (k_9 : Unit → Option (Int)) : Nat → Int → Option (Int)
  | 0, _ => none
  | n_7 + 1, v_6 =>
    bif decide (v_6 < (((k_1.Segments).length : Int))) then
     (idx k_1.Segments v_6).bind fun x_11 =>
     Option.bind (
      bif decide (x_11.Mat < 0) then some true else
      bif decide (x_11.Mat ≥ 40) then some true else
      bif decide (x_11.Epoch < 0) then some true else
      bif decide (x_11.Epoch > 255) then some true else
      (M1002 x_11.Anchor).bind fun r_18 =>
      bif !r_18 then some true else
      bif decide (v_6 > 0) then
       (idx k_1.Segments (w64 (v_6 - 1))).bind fun x_22 =>
       (M1009 x_22 x_11).bind fun r_23 =>
       some (decide (r_23 ≥ 0))
      else
      some false
     ) fun v_12 =>
     bif v_12 then some 160 else
     (M1015 k_1 k_9 n_7) ((w64 (v_6 + 1)))
    else
    k_9 ()
def M1016 (k_1 : TClocks) (k_30 : Unit → Option (Int)) : Nat → Int → Option (Int)
  | 0, _ => none
  | n_28 + 1, v_27 =>
    bif decide (v_27 < (((k_1.Far).length : Int))) then
     (idx k_1.Far v_27).bind fun x_32 =>
     bif (((x_32).length : Int)) != (w64 ((((k_1.Segments).length : Int)) + 1)) then some 160 else
     (idx x_32 v_27).bind fun x_34 =>
     bif x_34 != 0 then some 160 else
     (M1014 x_32).bind fun r_36 =>
     bif r_36 then some 160 else
     (M1016 k_1 k_30 n_28) ((w64 (v_27 + 1)))
    else
    k_30 ()
def M1017 (k_1 : TClocks) (v_40 : Int) (x_52 : Int) (x_53 : List Int) (k_58 : Unit → Option (Int)) : Nat → Int → Option (Int)
  | 0, _ => none
  | n_56 + 1, v_55 =>
    bif decide (v_55 < (((x_53).length : Int))) then
     (idx x_53 v_55).bind fun x_60 =>
     (idx k_1.Far v_40).bind fun x_61 =>
     (idx x_61 v_55).bind fun x_62 =>
     bif decide (x_62 > (w64 (x_52 + x_60))) then some 160 else
     (M1017 k_1 v_40 x_52 x_53 k_58 n_56) ((w64 (v_55 + 1)))
    else
    k_58 ()
def M1018 (v_47 : Int) (nx_49 : Int → Option (Int)) (_ : Unit) : Option (Int) :=
 nx_49 ((w64 (v_47 + 1)))
def M1019 (k_1 : TClocks) (v_40 : Int) (x_45 : List Int) (k_50 : Unit → Option (Int)) : Nat → Int → Option (Int)
  | 0, _ => none
  | n_48 + 1, v_47 =>
    bif decide (v_47 < (((x_45).length : Int))) then
     (idx x_45 v_47).bind fun x_52 =>
     (idx k_1.Far v_47).bind fun x_53 =>
     M1017 k_1 v_40 x_52 x_53 (M1018 v_47 (M1019 k_1 v_40 x_45 k_50 n_48)) (((((x_53).length : Int)) - 0 : Int).toNat + 1) 0
    else
    k_50 ()
def M1020 (v_40 : Int) (nx_42 : Int → Option (Int)) (_ : Unit) : Option (Int) :=
 nx_42 ((w64 (v_40 + 1)))
def M1021 (k_1 : TClocks) (k_43 : Unit → Option (Int)) : Nat → Int → Option (Int)
  | 0, _ => none
  | n_41 + 1, v_40 =>
    bif decide (v_40 < (w64 ((((k_1.Segments).length : Int)) + 1))) then
     (idx k_1.Far v_40).bind fun x_45 =>
     M1019 k_1 v_40 x_45 (M1020 v_40 (M1021 k_1 k_43 n_41)) (((((x_45).length : Int)) - 0 : Int).toNat + 1) 0
    else
    k_43 ()
def M1022 (_ : Unit) : Option (Int) :=
 some 0
def M1023 (k_1 : TClocks) (_ : Unit) : Option (Int) :=
 M1021 k_1 M1022 (((w64 ((((k_1.Segments).length : Int)) + 1)) - 0 : Int).toNat + 1) 0
def M1024 (k_1 : TClocks) (_ : Unit) : Option (Int) :=
 M1016 k_1 (M1023 k_1) (((((k_1.Far).length : Int)) - 0 : Int).toNat + 1) 0
def M1025 (k_1 : TClocks) : Option (Int) :=
 bif decide ((((k_1.Segments).length : Int)) > 511) then some 160 else
 bif (((k_1.Far).length : Int)) != (w64 ((((k_1.Segments).length : Int)) + 1)) then some 160 else
 M1015 k_1 (M1024 k_1) (((((k_1.Segments).length : Int)) - 0 : Int).toNat + 1) 0
def M1026 (slices_1 : List (List TOutcome)) : Nat → Int → Int → Option (Int)
  | 0, _, _ => none
  | n_7 + 1, size_5, v_6 =>
    bif decide (v_6 < (((slices_1).length : Int))) then
     (idx slices_1 v_6).bind fun x_12 =>
     bif decide ((w64 (size_5 + (((x_12).length : Int)))) < 0) then none else
     (M1026 slices_1 n_7) ((w64 (size_5 + (((x_12).length : Int))))) ((w64 (v_6 + 1)))
    else
    some size_5
def M1027 (slices_1 : List (List TOutcome)) : Nat → Int → (List TOutcome) → Option (List TOutcome)
  | 0, _, _ => none
  | n_23 + 1, v_21, l_22 =>
    bif decide (v_21 < (((slices_1).length : Int))) then
     (idx slices_1 v_21).bind fun x_28 =>
     (app 32 l_22 x_28).bind fun l_29 =>
     (M1027 slices_1 n_23) ((w64 (v_21 + 1))) l_29
    else
    some l_22
def M1028 (slices_1 : List (List TOutcome)) : Nat → Int → (List TOutcome) → Option (List TOutcome)
  | 0, _, _ => none
  | n_35 + 1, v_33, l_34 =>
    bif decide (v_33 < (((slices_1).length : Int))) then
     (idx slices_1 v_33).bind fun x_40 =>
     (app 32 l_34 x_40).bind fun l_41 =>
     (M1028 slices_1 n_35) ((w64 (v_33 + 1))) l_41
    else
    some l_34
def M1029 (slices_1 : List (List TOutcome)) : Option (List TOutcome) :=
 (M1026 slices_1 (((((slices_1).length : Int)) - 0 : Int).toNat + 1) 0 0).bind fun size_8 =>
 bif decide (size_8 < 0) then none else
 bif decide ((w64 (size_8 - 0)) > 0) then
  (mkZ 32 (w64 (size_8 - 0))).bind fun n_17 =>
  (slcTo (List.replicate n_17 ({ Out := false, Seg := 0, Lo := 0, Hi := 0 } : TOutcome)) 0).bind fun l_18 =>
  (M1027 slices_1 (((((slices_1).length : Int)) - 0 : Int).toNat + 1) 0 l_18).bind fun l_24 =>
  some l_24
 else
 (M1028 slices_1 (((((slices_1).length : Int)) - 0 : Int).toNat + 1) 0 ((([] : List TOutcome)))).bind fun l_36 =>
 some l_36
def M1030 : Option (TOutcome) :=
 some ({ Out := true, Seg := (-1), Lo := 0, Hi := 0 } : TOutcome)
def M1031 (k_1 : TClocks) (x_2 : TOutcome) : Option (Int) :=
 (M1025 k_1).bind fun r_4 =>
 bif r_4 != 0 then some r_4 else
 bif x_2.Out then
  (M1030).bind fun r_13 =>
  bif !((x_2.Out == r_13.Out) && ((x_2.Seg == r_13.Seg) && ((x_2.Lo == r_13.Lo) && ((x_2.Hi == r_13.Hi) && true)))) then some 230 else
  some 0
 else
 bif !((decide (x_2.Seg ≥ (-1))) && ((decide (x_2.Seg < (((k_1.Segments).length : Int)))) && ((decide (x_2.Lo ≥ (-288230376151711744))) && ((decide (x_2.Lo ≤ x_2.Hi)) && (decide (x_2.Hi ≤ 288230376151711744)))))) then some 230 else
 some 0
def M1032 (r_1 : TRunner) (c_2 : Int) : Option (Bool) :=
 (idx r_1.Worlds c_2).bind fun x_4 =>
 some ((((x_4).length : Int)) == 0)
def M1033 (s_1 : List TRunner) (c_2 : Int) (k_8 : Unit → Option (Int)) : Nat → Int → Option (Int)
  | 0, _ => none
  | n_6 + 1, v_5 =>
    bif decide (v_5 < (((s_1).length : Int))) then
     (idx s_1 v_5).bind fun x_10 =>
     (M1032 x_10 c_2).bind fun r_11 =>
     bif r_11 then some v_5 else
     (M1033 s_1 c_2 k_8 n_6) ((w64 (v_5 + 1)))
    else
    k_8 ()
def M1034 (_ : Unit) : Option (Int) :=
 some (-1)
def M1035 (s_1 : List TRunner) (c_2 : Int) : Option (Int) :=
 M1033 s_1 c_2 M1034 (((((s_1).length : Int)) - 0 : Int).toNat + 1) 0
def M1036 (s_1 : List TRunner) (c_2 : Int) : Option (Bool) :=
 (M1035 s_1 c_2).bind fun r_4 =>
 some (decide (r_4 ≥ 0))
def M1037 (f_1 : TField) (k_7 : Unit → Option (Bool)) : Nat → Int → Option (Bool)
  | 0, _ => none
  | n_5 + 1, v_4 =>
    bif decide (v_4 < (w64 ((((f_1.Pairs).length : Int)) + 1))) then
     (M1036 f_1.Runners v_4).bind fun r_9 =>
     bif !r_9 then some true else
     (M1037 f_1 k_7 n_5) ((w64 (v_4 + 1)))
    else
    k_7 ()
def M1038 (_ : Unit) : Option (Bool) :=
 some false
def M1039 (f_1 : TField) : Option (Bool) :=
 M1037 f_1 M1038 (((w64 ((((f_1.Pairs).length : Int)) + 1)) - 0 : Int).toNat + 1) 0
def M1040 (f_1 : TField) (k_19 : Unit → Option (Int)) : Nat → Int → Int → Int → Option (Int)
  | 0, _, _, _ => none
  | n_17 + 1, v_14, v_15, v_16 =>
    bif decide (v_14 < (((f_1.Pairs).length : Int))) then
     (idx f_1.Pairs v_14).bind fun x_21 =>
     bif (decide (x_21.A < 1)) || ((decide (x_21.A ≥ x_21.B)) || ((decide (x_21.B > 9999)) || ((decide (x_21.A < v_15)) || ((x_21.A == v_15) && (decide (x_21.B ≤ v_16)))))) then some 240 else
     (M1040 f_1 k_19 n_17) ((w64 (v_14 + 1))) x_21.A x_21.B
    else
    k_19 ()
def M1041 (f_1 : TField) (r_45 : List TOutcome) (k_51 : Unit → Option (Int)) : Nat → Int → Option (Int)
  | 0, _ => none
  | n_49 + 1, v_48 =>
    bif decide (v_48 < (((r_45).length : Int))) then
     (idx r_45 v_48).bind fun x_53 =>
     (M1031 f_1.Clocks x_53).bind fun r_54 =>
     bif r_54 != 0 then some 240 else
     (M1041 f_1 r_45 k_51 n_49) ((w64 (v_48 + 1)))
    else
    k_51 ()
def M1042 (v_32 : Int) (nx_34 : Int → Int → Option (Int)) (x_37 : TRunner) (_ : Unit) : Option (Int) :=
 nx_34 x_37.Bib ((w64 (v_32 + 1)))
def M1043 (f_1 : TField) (k_35 : Unit → Option (Int)) : Nat → Int → Int → Option (Int)
  | 0, _, _ => none
  | n_33 + 1, bib_31, v_32 =>
    bif decide (v_32 < (((f_1.Runners).length : Int))) then
     (idx f_1.Runners v_32).bind fun x_37 =>
     Option.bind (
      bif decide (x_37.Bib ≤ bib_31) then some true else
      bif decide (x_37.Bib > 9999) then some true else
      (idx f_1.Runners 0).bind fun x_42 =>
      bif (((x_37.Keys).length : Int)) != (((x_42.Keys).length : Int)) then some true else
      some ((((x_37.Worlds).length : Int)) != (w64 ((((f_1.Pairs).length : Int)) + 1)))
     ) fun v_38 =>
     bif v_38 then some 240 else
     (M1029 x_37.Worlds).bind fun r_45 =>
     M1041 f_1 r_45 (M1042 v_32 (M1043 f_1 k_35 n_33) x_37) (((((r_45).length : Int)) - 0 : Int).toNat + 1) 0
    else
    k_35 ()
def M1044 (f_1 : TField) (_ : Unit) : Option (Int) :=
 (M1039 f_1).bind fun r_57 =>
 bif !r_57 then some 240 else
 some 0
def M1045 (f_1 : TField) (_ : Unit) : Option (Int) :=
 M1043 f_1 (M1044 f_1) (((((f_1.Runners).length : Int)) - 0 : Int).toNat + 1) 0 0
def M1046 (f_1 : TField) : Option (Int) :=
 Option.bind (
  (M1025 f_1.Clocks).bind fun r_5 =>
  bif r_5 != 0 then some true else
  bif decide ((((f_1.Pairs).length : Int)) > 16) then some true else
  bif decide ((((f_1.Runners).length : Int)) < 1) then some true else
  some (decide ((((f_1.Runners).length : Int)) > 4000))
 ) fun v_3 =>
 bif v_3 then some 240 else
 M1040 f_1 (M1045 f_1) (((((f_1.Pairs).length : Int)) - 0 : Int).toNat + 1) 0 0 0
def M1047 (f_1 : List TField) (k_9 : Unit → Option (Int)) : Nat → Int → Option (Int)
  | 0, _ => none
  | n_7 + 1, v_6 =>
    bif decide (v_6 < (((f_1).length : Int))) then
     (idx f_1 v_6).bind fun x_11 =>
     (M1046 x_11).bind fun r_12 =>
     bif r_12 != 0 then some r_12 else
     (M1047 f_1 k_9 n_7) ((w64 (v_6 + 1)))
    else
    k_9 ()
def M1048 (_ : Unit) : Option (Int) :=
 some 0
def M1049 (f_1 : List TField) : Option (Int) :=
 bif decide ((((f_1).length : Int)) < 1) then some 330 else
 bif decide ((((f_1).length : Int)) > 12) then some 330 else
 M1047 f_1 M1048 (((((f_1).length : Int)) - 0 : Int).toNat + 1) 0
def M1050 (r_1 : TRunner) (c_2 : Int) : Option (Bool) :=
 some (r_1.Bib == c_2)
def M1051 (s_1 : List TRunner) (c_2 : Int) (k_8 : Unit → Option (Int)) : Nat → Int → Option (Int)
  | 0, _ => none
  | n_6 + 1, v_5 =>
    bif decide (v_5 < (((s_1).length : Int))) then
     (idx s_1 v_5).bind fun x_10 =>
     (M1050 x_10 c_2).bind fun r_11 =>
     bif r_11 then some v_5 else
     (M1051 s_1 c_2 k_8 n_6) ((w64 (v_5 + 1)))
    else
    k_8 ()
def M1052 (_ : Unit) : Option (Int) :=
 some (-1)
def M1053 (s_1 : List TRunner) (c_2 : Int) : Option (Int) :=
 M1051 s_1 c_2 M1052 (((((s_1).length : Int)) - 0 : Int).toNat + 1) 0
def M1054 (f_1 : TField) (bib_2 : Int) : Option (Int × Bool) :=
 (M1053 f_1.Runners bib_2).bind fun r_5 =>
 some ((maxG r_5 0), (decide (r_5 ≥ 0)))
def M1055 (x_1 : TRunner) (c_2 : Int) : Option (Bool) :=
 bif decide (c_2 ≥ (((x_1.Worlds).length : Int))) then some true else
 (idx x_1.Worlds c_2).bind fun x_5 =>
 some ((((x_5).length : Int)) == 0)
def M1056 (s_1 : List TRunner) (c_2 : Int) (k_8 : Unit → Option (Int)) : Nat → Int → Option (Int)
  | 0, _ => none
  | n_6 + 1, v_5 =>
    bif decide (v_5 < (((s_1).length : Int))) then
     (idx s_1 v_5).bind fun x_10 =>
     (M1055 x_10 c_2).bind fun r_11 =>
     bif r_11 then some v_5 else
     (M1056 s_1 c_2 k_8 n_6) ((w64 (v_5 + 1)))
    else
    k_8 ()
def M1057 (_ : Unit) : Option (Int) :=
 some (-1)
def M1058 (s_1 : List TRunner) (c_2 : Int) : Option (Int) :=
 M1056 s_1 c_2 M1057 (((((s_1).length : Int)) - 0 : Int).toNat + 1) 0
def M1059 (s_1 : List TRunner) (c_2 : Int) : Option (Bool) :=
 (M1058 s_1 c_2).bind fun r_4 =>
 some (decide (r_4 ≥ 0))
def M1060 (f_1 : TField) (world_2 : Int) : Option (Bool) :=
 (M1059 f_1.Runners world_2).bind fun r_4 =>
 some (!r_4)
def M1061 (k_1 : TClocks) (seg_2 : Int) (x_3 : TSpan) : Option (TSpan) :=
 bif seg_2 == (-1) then some x_3 else
 (idx k_1.Far (w64 (seg_2 + 1))).bind fun x_6 =>
 (idx x_6 0).bind fun x_7 =>
 (idx k_1.Far 0).bind fun x_8 =>
 (idx x_8 (w64 (seg_2 + 1))).bind fun x_9 =>
 some ({ Lo := (w64 (x_3.Lo - x_7)), Hi := (w64 (x_3.Hi + x_9)) } : TSpan)
def M1062 (k_1 : TClocks) (x_2 : TOutcome) : Option (TSpan × Int) :=
 (M1031 k_1 x_2).bind fun r_5 =>
 bif r_5 != 0 then some (({ Lo := 0, Hi := 0 } : TSpan), r_5) else
 bif x_2.Out then some (({ Lo := 0, Hi := 0 } : TSpan), 230) else
 (M1061 k_1 x_2.Seg ({ Lo := x_2.Lo, Hi := x_2.Hi } : TSpan)).bind fun r_9 =>
 some (r_9, 0)
def M1063 (s_1 : TSpan) : Option (Int) :=
 bif decide (s_1.Lo < (-70368744177664)) then some 10 else
 bif decide (s_1.Hi > 70368744177664) then some 10 else
 bif decide (s_1.Lo > s_1.Hi) then some 10 else
 some 0
def M1064 (s_1 : TSpan) : Option (Bool) :=
 (M1063 s_1).bind fun r_3 =>
 some (r_3 != 0)
def M1065 (s_1 : List TSpan) (k_7 : Unit → Option (Int)) : Nat → Int → Option (Int)
  | 0, _ => none
  | n_5 + 1, v_4 =>
    bif decide (v_4 < (((s_1).length : Int))) then
     (idx s_1 v_4).bind fun x_9 =>
     (M1064 x_9).bind fun r_10 =>
     bif r_10 then some v_4 else
     (M1065 s_1 k_7 n_5) ((w64 (v_4 + 1)))
    else
    k_7 ()
def M1066 (_ : Unit) : Option (Int) :=
 some (-1)
def M1067 (s_1 : List TSpan) : Option (Int) :=
 M1065 s_1 M1066 (((((s_1).length : Int)) - 0 : Int).toNat + 1) 0
def M1068 (s_1 : List TSpan) : Option (Bool) :=
 (M1067 s_1).bind fun r_3 =>
 some (decide (r_3 ≥ 0))
def M1069 (lists_1 : List (List TSpan)) (k_7 : Unit → Option (Int)) : Nat → Int → Option (Int)
  | 0, _ => none
  | n_5 + 1, v_4 =>
    bif decide (v_4 < (((lists_1).length : Int))) then
     (idx lists_1 v_4).bind fun x_9 =>
     bif decide ((((x_9).length : Int)) > 4096) then some 2 else
     (M1068 x_9).bind fun r_11 =>
     bif r_11 then some 10 else
     (M1069 lists_1 k_7 n_5) ((w64 (v_4 + 1)))
    else
    k_7 ()
def M1070 (_ : Unit) : Option (Int) :=
 some 0
def M1071 (lists_1 : List (List TSpan)) : Option (Int) :=
 M1069 lists_1 M1070 (((((lists_1).length : Int)) - 0 : Int).toNat + 1) 0
def M1072 (s_1 : List TSpan) : Option (List TSpan) :=
 some s_1
def M1073 (c_1 : List TSpan) (k_6 : Unit → Option (List TSpan)) : Nat → Int → Option (List TSpan)
  | 0, _ => none
  | n_4 + 1, v_3 =>
    bif decide (v_3 < (((c_1).length : Int))) then
     (idx c_1 v_3).bind fun x_8 =>
     Option.bind (
      (M1073 c_1 k_6 n_4) ((w64 (v_3 + 1)))
     ) fun l => some (x_8 :: l)
    else
    k_6 ()
def M1074 (_ : Unit) : Option (List TSpan) :=
 some []
def M1075 (c_1 : List TSpan) : Option (List TSpan) :=
 M1073 c_1 M1074 (((((c_1).length : Int)) - 0 : Int).toNat + 1) 0
def M1076 (x_1 : Int) : Option (Int) :=
  if 0 ≤ x_1 ∧ x_1 ≤ 18446744073709551615 then some (Lib.bitLen x_1.toNat : Int) else none
def M1077 (a_1 : TSpan) (b_2 : TSpan) : Option (Int) :=
 (M1004 a_1.Lo b_2.Lo).bind fun r_4 =>
 (M1004 a_1.Hi b_2.Hi).bind fun r_6 =>
 (M1007 ((([r_4, r_6] : List Int)))).bind fun r_8 =>
 some r_8
def M1078 (a_1 : Int) : Nat → Int → (List TSpan) → Option (List TSpan)
  | 0, _, _ => none
  | n_18 + 1, j_16, l_17 =>
    bif decide (j_16 > a_1) then
     (idx l_17 j_16).bind fun x_23 =>
     (idx l_17 (w64 (j_16 - 1))).bind fun x_24 =>
     (M1077 x_23 x_24).bind fun r_25 =>
     bif decide (r_25 < 0) then
      (idx l_17 (w64 (j_16 - 1))).bind fun x_28 =>
      (idx l_17 j_16).bind fun x_29 =>
      (idx l_17 j_16).bind fun x_30 =>
      (idx (List.set l_17 (Int.toNat j_16) x_28) (w64 (j_16 - 1))).bind fun x_31 =>
      (M1078 a_1 n_18) ((w64 (j_16 - 1))) ((List.set (List.set l_17 (Int.toNat j_16) x_28) (Int.toNat (w64 (j_16 - 1))) x_29))
     else
     some l_17
    else
    some l_17
def M1079 (a_1 : Int) (b_2 : Int) : Nat → Int → (List TSpan) → Option (List TSpan)
  | 0, _, _ => none
  | n_9 + 1, i_7, l_8 =>
    bif decide (i_7 < b_2) then
     (M1078 a_1 ((i_7 - a_1 : Int).toNat + 1) i_7 l_8).bind fun l_19 =>
     (M1079 a_1 b_2 n_9) ((w64 (i_7 + 1))) l_19
    else
    some l_8
def M1080 (a_1 : Int) (b_2 : Int) (l_3 : List TSpan) : Option (List TSpan) :=
 (M1079 a_1 b_2 ((b_2 - (w64 (a_1 + 1)) : Int).toNat + 1) ((w64 (a_1 + 1))) l_3).bind fun l_10 =>
 some l_10
def M1081 (hi_2 : Int) (first_3 : Int) (k_13 : (List TSpan) → Option (List TSpan)) : Nat → Int → (List TSpan) → Option (List TSpan)
  | 0, _, _ => none
  | n_10 + 1, root_8, l_9 =>
    bif decide ((w64 ((w64 (2 * root_8)) + 1)) ≥ hi_2) then k_13 l_9 else
    bif decide ((w64 ((w64 ((w64 (2 * root_8)) + 1)) + 1)) < hi_2) then
     (idx l_9 (w64 (first_3 + (w64 ((w64 (2 * root_8)) + 1))))).bind fun x_16 =>
     (idx l_9 (w64 ((w64 (first_3 + (w64 ((w64 (2 * root_8)) + 1)))) + 1))).bind fun x_17 =>
     (M1077 x_16 x_17).bind fun r_18 =>
     bif decide (r_18 < 0) then
      (idx l_9 (w64 (first_3 + root_8))).bind fun x_21 =>
      (idx l_9 (w64 (first_3 + (w64 ((w64 ((w64 (2 * root_8)) + 1)) + 1))))).bind fun x_22 =>
      (M1077 x_21 x_22).bind fun r_23 =>
      bif !(decide (r_23 < 0)) then some l_9 else
      (idx l_9 (w64 (first_3 + (w64 ((w64 ((w64 (2 * root_8)) + 1)) + 1))))).bind fun x_26 =>
      (idx l_9 (w64 (first_3 + root_8))).bind fun x_27 =>
      (idx l_9 (w64 (first_3 + root_8))).bind fun x_28 =>
      (idx (List.set l_9 (Int.toNat (w64 (first_3 + root_8))) x_26) (w64 (first_3 + (w64 ((w64 ((w64 (2 * root_8)) + 1)) + 1))))).bind fun x_29 =>
      (M1081 hi_2 first_3 k_13 n_10) ((w64 ((w64 ((w64 (2 * root_8)) + 1)) + 1))) ((List.set (List.set l_9 (Int.toNat (w64 (first_3 + root_8))) x_26) (Int.toNat (w64 (first_3 + (w64 ((w64 ((w64 (2 * root_8)) + 1)) + 1))))) x_27))
     else
     (idx l_9 (w64 (first_3 + root_8))).bind fun x_30 =>
     (idx l_9 (w64 (first_3 + (w64 ((w64 (2 * root_8)) + 1))))).bind fun x_31 =>
     (M1077 x_30 x_31).bind fun r_32 =>
     bif !(decide (r_32 < 0)) then some l_9 else
     (idx l_9 (w64 (first_3 + (w64 ((w64 (2 * root_8)) + 1))))).bind fun x_35 =>
     (idx l_9 (w64 (first_3 + root_8))).bind fun x_36 =>
     (idx l_9 (w64 (first_3 + root_8))).bind fun x_37 =>
     (idx (List.set l_9 (Int.toNat (w64 (first_3 + root_8))) x_35) (w64 (first_3 + (w64 ((w64 (2 * root_8)) + 1))))).bind fun x_38 =>
     (M1081 hi_2 first_3 k_13 n_10) ((w64 ((w64 (2 * root_8)) + 1))) ((List.set (List.set l_9 (Int.toNat (w64 (first_3 + root_8))) x_35) (Int.toNat (w64 (first_3 + (w64 ((w64 (2 * root_8)) + 1))))) x_36))
    else
    (idx l_9 (w64 (first_3 + root_8))).bind fun x_39 =>
    (idx l_9 (w64 (first_3 + (w64 ((w64 (2 * root_8)) + 1))))).bind fun x_40 =>
    (M1077 x_39 x_40).bind fun r_41 =>
    bif !(decide (r_41 < 0)) then some l_9 else
    (idx l_9 (w64 (first_3 + (w64 ((w64 (2 * root_8)) + 1))))).bind fun x_44 =>
    (idx l_9 (w64 (first_3 + root_8))).bind fun x_45 =>
    (idx l_9 (w64 (first_3 + root_8))).bind fun x_46 =>
    (idx (List.set l_9 (Int.toNat (w64 (first_3 + root_8))) x_44) (w64 (first_3 + (w64 ((w64 (2 * root_8)) + 1))))).bind fun x_47 =>
    (M1081 hi_2 first_3 k_13 n_10) ((w64 ((w64 (2 * root_8)) + 1))) ((List.set (List.set l_9 (Int.toNat (w64 (first_3 + root_8))) x_44) (Int.toNat (w64 (first_3 + (w64 ((w64 (2 * root_8)) + 1))))) x_45))
def M1082 (l_11 : List TSpan) : Option (List TSpan) :=
 some l_11
def M1083 (lo_1 : Int) (hi_2 : Int) (first_3 : Int) (l_4 : List TSpan) : Option (List TSpan) :=
 M1081 hi_2 first_3 M1082 (List.length l_4 + 1) lo_1 l_4
def M1084 (a_1 : Int) (b_2 : Int) : Nat → Int → (List TSpan) → Option (List TSpan)
  | 0, _, _ => none
  | n_9 + 1, i_7, l_8 =>
    bif decide (i_7 ≥ 0) then
     (M1083 i_7 ((w64 (b_2 - a_1))) a_1 l_8).bind fun l_14 =>
     (lenIs l_14 l_8).bind fun _ =>
     (M1084 a_1 b_2 n_9) ((w64 (i_7 - 1))) l_14
    else
    some l_8
def M1085 (a_1 : Int) : Nat → Int → (List TSpan) → Option (List TSpan)
  | 0, _, _ => none
  | n_22 + 1, i_20, l_21 =>
    bif decide (i_20 ≥ 0) then
     (idx l_21 (w64 (a_1 + i_20))).bind fun x_27 =>
     (idx l_21 a_1).bind fun x_28 =>
     (idx l_21 a_1).bind fun x_29 =>
     (idx (List.set l_21 (Int.toNat a_1) x_27) (w64 (a_1 + i_20))).bind fun x_30 =>
     (M1083 0 i_20 a_1 ((List.set (List.set l_21 (Int.toNat a_1) x_27) (Int.toNat (w64 (a_1 + i_20))) x_28))).bind fun l_31 =>
     (lenIs l_31 (List.set (List.set l_21 (Int.toNat a_1) x_27) (Int.toNat (w64 (a_1 + i_20))) x_28)).bind fun _ =>
     (M1085 a_1 n_22) ((w64 (i_20 - 1))) l_31
    else
    some l_21
def M1086 (a_1 : Int) (b_2 : Int) (l_3 : List TSpan) : Option (List TSpan) :=
 (M1084 a_1 b_2 (((w64 (Int.tdiv (w64 ((w64 (b_2 - a_1)) - 1)) 2)) + 1 - 0 : Int).toNat + 1) ((w64 (Int.tdiv (w64 ((w64 (b_2 - a_1)) - 1)) 2))) l_3).bind fun l_10 =>
 (M1085 a_1 (((w64 ((w64 (b_2 - a_1)) - 1)) + 1 - 0 : Int).toNat + 1) ((w64 ((w64 (b_2 - a_1)) - 1))) l_10).bind fun l_23 =>
 some l_23
def M1087 (data_1 : List TSpan) (a_2 : Int) (b_3 : Int) (v_4 : Int) : Option (Int × Int × Int) :=
 (idx data_1 b_3).bind fun x_8 =>
 (idx data_1 a_2).bind fun x_9 =>
 (M1077 x_8 x_9).bind fun r_10 =>
 bif decide (r_10 < 0) then some (b_3, a_2, (w64 (v_4 + 1))) else
 some (a_2, b_3, v_4)
def M1088 (data_1 : List TSpan) (a_2 : Int) (b_3 : Int) (c_4 : Int) (v_5 : Int) : Option (Int × Int) :=
 (M1087 data_1 a_2 b_3 v_5).bind fun (r_8, r_9, b_10) =>
 (M1087 data_1 r_9 c_4 b_10).bind fun (r_12, r_13, b_14) =>
 (M1087 data_1 r_8 r_12 b_14).bind fun (r_16, r_17, b_18) =>
 some (r_17, b_18)
def M1089 (data_1 : List TSpan) (a_2 : Int) (v_3 : Int) : Option (Int × Int) :=
 (M1088 data_1 ((w64 (a_2 - 1))) a_2 ((w64 (a_2 + 1))) v_3).bind fun (r_6, b_7) =>
 some (r_6, b_7)
def M1090 (data_1 : List TSpan) (a_2 : Int) (b_3 : Int) : Option (Int × Int) :=
 bif decide ((w64 (b_3 - a_2)) ≥ 8) then
  bif decide ((w64 (b_3 - a_2)) ≥ 50) then
   (M1089 data_1 ((w64 (a_2 + (w64 ((w64 (Int.tdiv (w64 (b_3 - a_2)) 4)) * 1))))) 0).bind fun (r_8, b_9) =>
   (M1089 data_1 ((w64 (a_2 + (w64 ((w64 (Int.tdiv (w64 (b_3 - a_2)) 4)) * 2))))) b_9).bind fun (r_11, b_12) =>
   (M1089 data_1 ((w64 (a_2 + (w64 ((w64 (Int.tdiv (w64 (b_3 - a_2)) 4)) * 3))))) b_12).bind fun (r_14, b_15) =>
   (M1088 data_1 r_8 r_11 r_14 b_15).bind fun (r_17, b_18) =>
   bif b_18 == 0 then some (r_17, 1) else
   bif b_18 == 12 then some (r_17, 2) else
   some (r_17, 0)
  else
  (M1088 data_1 ((w64 (a_2 + (w64 ((w64 (Int.tdiv (w64 (b_3 - a_2)) 4)) * 1))))) ((w64 (a_2 + (w64 ((w64 (Int.tdiv (w64 (b_3 - a_2)) 4)) * 2))))) ((w64 (a_2 + (w64 ((w64 (Int.tdiv (w64 (b_3 - a_2)) 4)) * 3))))) 0).bind fun (r_22, b_23) =>
  bif b_23 == 0 then some (r_22, 1) else
  bif b_23 == 12 then some (r_22, 2) else
  some (r_22, 0)
 else
 some ((w64 (a_2 + (w64 ((w64 (Int.tdiv (w64 (b_3 - a_2)) 4)) * 2)))), 1)
def M1091 : Nat → Int → Int → (List TSpan) → Option (List TSpan)
  | 0, _, _, _ => none
  | n_11 + 1, i_8, j_9, l_10 =>
    bif decide (i_8 < j_9) then
     (idx l_10 j_9).bind fun x_16 =>
     (idx l_10 i_8).bind fun x_17 =>
     (idx l_10 i_8).bind fun x_18 =>
     (idx (List.set l_10 (Int.toNat i_8) x_16) j_9).bind fun x_19 =>
     (M1091 n_11) ((w64 (i_8 + 1))) ((w64 (j_9 - 1))) ((List.set (List.set l_10 (Int.toNat i_8) x_16) (Int.toNat j_9) x_17))
    else
    some l_10
def M1092 (a_1 : Int) (b_2 : Int) (l_3 : List TSpan) : Option (List TSpan) :=
 (M1091 (((w64 (b_2 - 1)) - a_1 : Int).toNat + 1) a_1 ((w64 (b_2 - 1))) l_3).bind fun l_12 =>
 some l_12
def M1093 (j_10 : Int) (nx_14 : Int → Int → (List TSpan) → Option (Bool × List TSpan)) (i_17 : Int) (l_18 : List TSpan) : Option (Bool × List TSpan) :=
 nx_14 i_17 ((w64 (j_10 + 1))) l_18
def M1094 (b_2 : Int) (l_11 : List TSpan) : Nat → Int → Option (Int)
  | 0, _ => none
  | n_21 + 1, i_20 =>
    bif decide (i_20 < b_2) then
     (idx l_11 i_20).bind fun x_26 =>
     (idx l_11 (w64 (i_20 - 1))).bind fun x_27 =>
     (M1077 x_26 x_27).bind fun r_28 =>
     bif !(decide (r_28 < 0)) then (M1094 b_2 l_11 n_21) ((w64 (i_20 + 1))) else
     some i_20
    else
    some i_20
def M1095 : Nat → Int → (List TSpan) → Option (List TSpan)
  | 0, _, _ => none
  | n_43 + 1, j_41, l_42 =>
    bif decide (j_41 ≥ 1) then
     (idx l_42 j_41).bind fun x_48 =>
     (idx l_42 (w64 (j_41 - 1))).bind fun x_49 =>
     (M1077 x_48 x_49).bind fun r_50 =>
     bif !(decide (r_50 < 0)) then some l_42 else
     (idx l_42 (w64 (j_41 - 1))).bind fun x_53 =>
     (idx l_42 j_41).bind fun x_54 =>
     (idx l_42 j_41).bind fun x_55 =>
     (idx (List.set l_42 (Int.toNat j_41) x_53) (w64 (j_41 - 1))).bind fun x_56 =>
     (M1095 n_43) ((w64 (j_41 - 1))) ((List.set (List.set l_42 (Int.toNat j_41) x_53) (Int.toNat (w64 (j_41 - 1))) x_54))
    else
    some l_42
def M1096 (b_2 : Int) : Nat → Int → (List TSpan) → Option (List TSpan)
  | 0, _, _ => none
  | n_63 + 1, j_61, l_62 =>
    bif decide (j_61 < b_2) then
     (idx l_62 j_61).bind fun x_68 =>
     (idx l_62 (w64 (j_61 - 1))).bind fun x_69 =>
     (M1077 x_68 x_69).bind fun r_70 =>
     bif !(decide (r_70 < 0)) then some l_62 else
     (idx l_62 (w64 (j_61 - 1))).bind fun x_73 =>
     (idx l_62 j_61).bind fun x_74 =>
     (idx l_62 j_61).bind fun x_75 =>
     (idx (List.set l_62 (Int.toNat j_61) x_73) (w64 (j_61 - 1))).bind fun x_76 =>
     (M1096 b_2 n_63) ((w64 (j_61 + 1))) ((List.set (List.set l_62 (Int.toNat j_61) x_73) (Int.toNat (w64 (j_61 - 1))) x_74))
    else
    some l_62
def M1097 (b_2 : Int) : Nat → Int → (List TSpan) → Option (List TSpan)
  | 0, _, _ => none
  | n_83 + 1, j_81, l_82 =>
    bif decide (j_81 < b_2) then
     (idx l_82 j_81).bind fun x_88 =>
     (idx l_82 (w64 (j_81 - 1))).bind fun x_89 =>
     (M1077 x_88 x_89).bind fun r_90 =>
     bif !(decide (r_90 < 0)) then some l_82 else
     (idx l_82 (w64 (j_81 - 1))).bind fun x_93 =>
     (idx l_82 j_81).bind fun x_94 =>
     (idx l_82 j_81).bind fun x_95 =>
     (idx (List.set l_82 (Int.toNat j_81) x_93) (w64 (j_81 - 1))).bind fun x_96 =>
     (M1097 b_2 n_83) ((w64 (j_81 + 1))) ((List.set (List.set l_82 (Int.toNat j_81) x_93) (Int.toNat (w64 (j_81 - 1))) x_94))
    else
    some l_82
def M1098 (a_1 : Int) (b_2 : Int) (k_15 : (List TSpan) → Option (Bool × List TSpan)) : Nat → Int → Int → (List TSpan) → Option (Bool × List TSpan)
  | 0, _, _, _ => none
  | n_12 + 1, i_9, j_10, l_11 =>
    bif decide (j_10 < 5) then
     (M1094 b_2 l_11 ((b_2 - i_9 : Int).toNat + 1) i_9).bind fun i_22 =>
     bif i_22 == b_2 then some (true, l_11) else
     bif decide ((w64 (b_2 - a_1)) < 50) then some (false, l_11) else
     (idx l_11 (w64 (i_22 - 1))).bind fun x_34 =>
     (idx l_11 i_22).bind fun x_35 =>
     (idx l_11 i_22).bind fun x_36 =>
     (idx (List.set l_11 (Int.toNat i_22) x_34) (w64 (i_22 - 1))).bind fun x_37 =>
     bif decide ((w64 (i_22 - a_1)) ≥ 2) then
      (M1095 (((w64 (i_22 - 1)) + 1 - 1 : Int).toNat + 1) ((w64 (i_22 - 1))) ((List.set (List.set l_11 (Int.toNat i_22) x_34) (Int.toNat (w64 (i_22 - 1))) x_35))).bind fun l_44 =>
      bif decide ((w64 (b_2 - i_22)) ≥ 2) then
       (M1096 b_2 ((b_2 - (w64 (i_22 + 1)) : Int).toNat + 1) ((w64 (i_22 + 1))) l_44).bind fun l_64 =>
       M1093 j_10 (M1098 a_1 b_2 k_15 n_12) i_22 l_64
      else
      M1093 j_10 (M1098 a_1 b_2 k_15 n_12) i_22 l_44
     else
     bif decide ((w64 (b_2 - i_22)) ≥ 2) then
      (M1097 b_2 ((b_2 - (w64 (i_22 + 1)) : Int).toNat + 1) ((w64 (i_22 + 1))) ((List.set (List.set l_11 (Int.toNat i_22) x_34) (Int.toNat (w64 (i_22 - 1))) x_35))).bind fun l_84 =>
      M1093 j_10 (M1098 a_1 b_2 k_15 n_12) i_22 l_84
     else
     M1093 j_10 (M1098 a_1 b_2 k_15 n_12) i_22 ((List.set (List.set l_11 (Int.toNat i_22) x_34) (Int.toNat (w64 (i_22 - 1))) x_35))
    else
    k_15 l_11
def M1099 (l_13 : List TSpan) : Option (Bool × List TSpan) :=
 some (false, l_13)
def M1100 (a_1 : Int) (b_2 : Int) (l_3 : List TSpan) : Option (Bool × List TSpan) :=
 M1098 a_1 b_2 M1099 ((5 - 0 : Int).toNat + 1) ((w64 (a_1 + 1))) 0 l_3
def M1101 (a_1 : Int) (j_15 : Int) (l_16 : List TSpan) : Nat → Int → Option (Int)
  | 0, _ => none
  | n_24 + 1, i_23 =>
    bif decide (i_23 ≤ j_15) then
     (idx l_16 a_1).bind fun x_29 =>
     (idx l_16 i_23).bind fun x_30 =>
     (M1077 x_29 x_30).bind fun r_31 =>
     bif !(decide (r_31 < 0)) then (M1101 a_1 j_15 l_16 n_24) ((w64 (i_23 + 1))) else
     some i_23
    else
    some i_23
def M1102 (a_1 : Int) (l_16 : List TSpan) (i_25 : Int) : Nat → Int → Option (Int)
  | 0, _ => none
  | n_37 + 1, j_36 =>
    bif decide (i_25 ≤ j_36) then
     (idx l_16 a_1).bind fun x_42 =>
     (idx l_16 j_36).bind fun x_43 =>
     (M1077 x_42 x_43).bind fun r_44 =>
     bif decide (r_44 < 0) then (M1102 a_1 l_16 i_25 n_37) ((w64 (j_36 - 1))) else
     some j_36
    else
    some j_36
def M1103 (a_1 : Int) : Nat → Int → Int → (List TSpan) → Option (Int × List TSpan)
  | 0, _, _, _ => none
  | n_17 + 1, i_14, j_15, l_16 =>
    (M1101 a_1 j_15 l_16 ((j_15 + 1 - i_14 : Int).toNat + 1) i_14).bind fun i_25 =>
    (M1102 a_1 l_16 i_25 ((j_15 + 1 - i_25 : Int).toNat + 1) j_15).bind fun j_38 =>
    bif decide (i_25 > j_38) then some (i_25, l_16) else
    (idx l_16 j_38).bind fun x_49 =>
    (idx l_16 i_25).bind fun x_50 =>
    (idx l_16 i_25).bind fun x_51 =>
    (idx (List.set l_16 (Int.toNat i_25) x_49) j_38).bind fun x_52 =>
    (M1103 a_1 n_17) ((w64 (i_25 + 1))) ((w64 (j_38 - 1))) ((List.set (List.set l_16 (Int.toNat i_25) x_49) (Int.toNat j_38) x_50))
def M1104 (a_1 : Int) (b_2 : Int) (pivot_3 : Int) (l_4 : List TSpan) : Option (Int × List TSpan) :=
 (idx l_4 pivot_3).bind fun x_7 =>
 (idx l_4 a_1).bind fun x_8 =>
 (idx l_4 a_1).bind fun x_9 =>
 (idx (List.set l_4 (Int.toNat a_1) x_7) pivot_3).bind fun x_10 =>
 (M1103 a_1 (List.length ((List.set (List.set l_4 (Int.toNat a_1) x_7) (Int.toNat pivot_3) x_8)) + 1) ((w64 (a_1 + 1))) ((w64 (b_2 - 1))) ((List.set (List.set l_4 (Int.toNat a_1) x_7) (Int.toNat pivot_3) x_8))).bind fun (i_18, l_19) =>
 some (i_18, l_19)
def M1105 (a_1 : Int) (b_2 : Int) (pivot_3 : Int) (l_4 : List TSpan) (x_8 : TSpan) (x_9 : TSpan) : Nat → Int → Option (Int)
  | 0, _ => none
  | n_14 + 1, i_13 =>
    bif decide (i_13 ≤ (w64 (b_2 - 1))) then
     (idx (List.set (List.set l_4 (Int.toNat a_1) x_8) (Int.toNat pivot_3) x_9) i_13).bind fun x_19 =>
     (idx (List.set (List.set l_4 (Int.toNat a_1) x_8) (Int.toNat pivot_3) x_9) a_1).bind fun x_20 =>
     (M1077 x_19 x_20).bind fun r_21 =>
     bif decide (r_21 < 0) then (M1105 a_1 b_2 pivot_3 l_4 x_8 x_9 n_14) ((w64 (i_13 + 1))) else
     some i_13
    else
    some i_13
def M1106 (a_1 : Int) (pivot_3 : Int) (l_4 : List TSpan) (x_8 : TSpan) (x_9 : TSpan) (i_15 : Int) : Nat → Int → Option (Int)
  | 0, _ => none
  | n_27 + 1, j_26 =>
    bif decide (i_15 ≤ j_26) then
     (idx (List.set (List.set l_4 (Int.toNat a_1) x_8) (Int.toNat pivot_3) x_9) j_26).bind fun x_32 =>
     (idx (List.set (List.set l_4 (Int.toNat a_1) x_8) (Int.toNat pivot_3) x_9) a_1).bind fun x_33 =>
     (M1077 x_32 x_33).bind fun r_34 =>
     bif !(decide (r_34 < 0)) then (M1106 a_1 pivot_3 l_4 x_8 x_9 i_15 n_27) ((w64 (j_26 - 1))) else
     some j_26
    else
    some j_26
def M1107 (a_1 : Int) (j_51 : Int) (l_52 : List TSpan) : Nat → Int → Option (Int)
  | 0, _ => none
  | n_60 + 1, i_59 =>
    bif decide (i_59 ≤ j_51) then
     (idx l_52 i_59).bind fun x_65 =>
     (idx l_52 a_1).bind fun x_66 =>
     (M1077 x_65 x_66).bind fun r_67 =>
     bif decide (r_67 < 0) then (M1107 a_1 j_51 l_52 n_60) ((w64 (i_59 + 1))) else
     some i_59
    else
    some i_59
def M1108 (a_1 : Int) (l_52 : List TSpan) (i_61 : Int) : Nat → Int → Option (Int)
  | 0, _ => none
  | n_73 + 1, j_72 =>
    bif decide (i_61 ≤ j_72) then
     (idx l_52 j_72).bind fun x_78 =>
     (idx l_52 a_1).bind fun x_79 =>
     (M1077 x_78 x_79).bind fun r_80 =>
     bif !(decide (r_80 < 0)) then (M1108 a_1 l_52 i_61 n_73) ((w64 (j_72 - 1))) else
     some j_72
    else
    some j_72
def M1109 (a_1 : Int) : Nat → Int → Int → (List TSpan) → Option (Int × List TSpan)
  | 0, _, _, _ => none
  | n_53 + 1, i_50, j_51, l_52 =>
    (M1107 a_1 j_51 l_52 ((j_51 + 1 - i_50 : Int).toNat + 1) i_50).bind fun i_61 =>
    (M1108 a_1 l_52 i_61 ((j_51 + 1 - i_61 : Int).toNat + 1) j_51).bind fun j_74 =>
    bif decide (i_61 > j_74) then some (j_74, l_52) else
    (idx l_52 j_74).bind fun x_85 =>
    (idx l_52 i_61).bind fun x_86 =>
    (idx l_52 i_61).bind fun x_87 =>
    (idx (List.set l_52 (Int.toNat i_61) x_85) j_74).bind fun x_88 =>
    (M1109 a_1 n_53) ((w64 (i_61 + 1))) ((w64 (j_74 - 1))) ((List.set (List.set l_52 (Int.toNat i_61) x_85) (Int.toNat j_74) x_86))
def M1110 (a_1 : Int) (b_2 : Int) (pivot_3 : Int) (l_4 : List TSpan) : Option (Int × Bool × List TSpan) :=
 (idx l_4 pivot_3).bind fun x_8 =>
 (idx l_4 a_1).bind fun x_9 =>
 (idx l_4 a_1).bind fun x_10 =>
 (idx (List.set l_4 (Int.toNat a_1) x_8) pivot_3).bind fun x_11 =>
 (M1105 a_1 b_2 pivot_3 l_4 x_8 x_9 (((w64 (b_2 - 1)) + 1 - (w64 (a_1 + 1)) : Int).toNat + 1) ((w64 (a_1 + 1)))).bind fun i_15 =>
 (M1106 a_1 pivot_3 l_4 x_8 x_9 i_15 (((w64 (b_2 - 1)) + 1 - i_15 : Int).toNat + 1) ((w64 (b_2 - 1)))).bind fun j_28 =>
 bif decide (i_15 > j_28) then
  (idx (List.set (List.set l_4 (Int.toNat a_1) x_8) (Int.toNat pivot_3) x_9) a_1).bind fun x_39 =>
  (idx (List.set (List.set l_4 (Int.toNat a_1) x_8) (Int.toNat pivot_3) x_9) j_28).bind fun x_40 =>
  (idx (List.set (List.set l_4 (Int.toNat a_1) x_8) (Int.toNat pivot_3) x_9) j_28).bind fun x_41 =>
  (idx (List.set (List.set (List.set l_4 (Int.toNat a_1) x_8) (Int.toNat pivot_3) x_9) (Int.toNat j_28) x_39) a_1).bind fun x_42 =>
  some (j_28, true, (List.set (List.set (List.set (List.set l_4 (Int.toNat a_1) x_8) (Int.toNat pivot_3) x_9) (Int.toNat j_28) x_39) (Int.toNat a_1) x_40))
 else
 (idx (List.set (List.set l_4 (Int.toNat a_1) x_8) (Int.toNat pivot_3) x_9) j_28).bind fun x_43 =>
 (idx (List.set (List.set l_4 (Int.toNat a_1) x_8) (Int.toNat pivot_3) x_9) i_15).bind fun x_44 =>
 (idx (List.set (List.set l_4 (Int.toNat a_1) x_8) (Int.toNat pivot_3) x_9) i_15).bind fun x_45 =>
 (idx (List.set (List.set (List.set l_4 (Int.toNat a_1) x_8) (Int.toNat pivot_3) x_9) (Int.toNat i_15) x_43) j_28).bind fun x_46 =>
 (M1109 a_1 (List.length ((List.set (List.set (List.set (List.set l_4 (Int.toNat a_1) x_8) (Int.toNat pivot_3) x_9) (Int.toNat i_15) x_43) (Int.toNat j_28) x_44)) + 1) ((w64 (i_15 + 1))) ((w64 (j_28 - 1))) ((List.set (List.set (List.set (List.set l_4 (Int.toNat a_1) x_8) (Int.toNat pivot_3) x_9) (Int.toNat i_15) x_43) (Int.toNat j_28) x_44))).bind fun (j_54, l_55) =>
 (idx l_55 a_1).bind fun x_90 =>
 (idx l_55 j_54).bind fun x_91 =>
 (idx l_55 j_54).bind fun x_92 =>
 (idx (List.set l_55 (Int.toNat j_54) x_90) a_1).bind fun x_93 =>
 some (j_54, false, (List.set (List.set l_55 (Int.toNat j_54) x_90) (Int.toNat a_1) x_91))
def M1111 (length_1 : Int) : Option (Int) :=
 (M1076 (IntKind.wrap .u64 length_1)).bind fun r_3 =>
 (nn r_3).bind fun u_5 =>
 some (shlK .u64 1 r_3)
def M1112 (v_1 : Int) : Option (Int × Int) :=
 some ((bitK .u64 (BitVec.ofInt 64 (bitK .u64 (BitVec.ofInt 64 (bitK .u64 (BitVec.ofInt 64 v_1 ^^^ BitVec.ofInt 64 (shlK .u64 v_1 13))) ^^^ BitVec.ofInt 64 (shrK .u64 (bitK .u64 (BitVec.ofInt 64 v_1 ^^^ BitVec.ofInt 64 (shlK .u64 v_1 13))) 7))) ^^^ BitVec.ofInt 64 (shlK .u64 (bitK .u64 (BitVec.ofInt 64 (bitK .u64 (BitVec.ofInt 64 v_1 ^^^ BitVec.ofInt 64 (shlK .u64 v_1 13))) ^^^ BitVec.ofInt 64 (shrK .u64 (bitK .u64 (BitVec.ofInt 64 v_1 ^^^ BitVec.ofInt 64 (shlK .u64 v_1 13))) 7))) 17))), (bitK .u64 (BitVec.ofInt 64 (bitK .u64 (BitVec.ofInt 64 (bitK .u64 (BitVec.ofInt 64 v_1 ^^^ BitVec.ofInt 64 (shlK .u64 v_1 13))) ^^^ BitVec.ofInt 64 (shrK .u64 (bitK .u64 (BitVec.ofInt 64 v_1 ^^^ BitVec.ofInt 64 (shlK .u64 v_1 13))) 7))) ^^^ BitVec.ofInt 64 (shlK .u64 (bitK .u64 (BitVec.ofInt 64 (bitK .u64 (BitVec.ofInt 64 v_1 ^^^ BitVec.ofInt 64 (shlK .u64 v_1 13))) ^^^ BitVec.ofInt 64 (shrK .u64 (bitK .u64 (BitVec.ofInt 64 v_1 ^^^ BitVec.ofInt 64 (shlK .u64 v_1 13))) 7))) 17))))
def M1113 (a_1 : Int) (b_2 : Int) (r_6 : Int) : Nat → Int → (List TSpan) → Int → Option (List TSpan)
  | 0, _, _, _ => none
  | n_14 + 1, idx_11, l_12, v_13 =>
    bif decide (idx_11 ≤ (w64 ((w64 (a_1 + (w64 ((w64 (Int.tdiv (w64 (b_2 - a_1)) 4)) * 2)))) + 1))) then
     (M1112 v_13).bind fun (r_19, b_20) =>
     bif decide ((w64 (bitK .u64 (BitVec.ofInt 64 r_19 &&& BitVec.ofInt 64 (IntKind.wrap .u64 (r_6 - 1))))) ≥ (w64 (b_2 - a_1))) then
      (idx l_12 (w64 (a_1 + (w64 ((w64 (bitK .u64 (BitVec.ofInt 64 r_19 &&& BitVec.ofInt 64 (IntKind.wrap .u64 (r_6 - 1))))) - (w64 (b_2 - a_1))))))).bind fun x_23 =>
      (idx l_12 idx_11).bind fun x_24 =>
      (idx l_12 idx_11).bind fun x_25 =>
      (idx (List.set l_12 (Int.toNat idx_11) x_23) (w64 (a_1 + (w64 ((w64 (bitK .u64 (BitVec.ofInt 64 r_19 &&& BitVec.ofInt 64 (IntKind.wrap .u64 (r_6 - 1))))) - (w64 (b_2 - a_1))))))).bind fun x_26 =>
      (M1113 a_1 b_2 r_6 n_14) ((w64 (idx_11 + 1))) ((List.set (List.set l_12 (Int.toNat idx_11) x_23) (Int.toNat (w64 (a_1 + (w64 ((w64 (bitK .u64 (BitVec.ofInt 64 r_19 &&& BitVec.ofInt 64 (IntKind.wrap .u64 (r_6 - 1))))) - (w64 (b_2 - a_1))))))) x_24)) b_20
     else
     (idx l_12 (w64 (a_1 + (w64 (bitK .u64 (BitVec.ofInt 64 r_19 &&& BitVec.ofInt 64 (IntKind.wrap .u64 (r_6 - 1)))))))).bind fun x_27 =>
     (idx l_12 idx_11).bind fun x_28 =>
     (idx l_12 idx_11).bind fun x_29 =>
     (idx (List.set l_12 (Int.toNat idx_11) x_27) (w64 (a_1 + (w64 (bitK .u64 (BitVec.ofInt 64 r_19 &&& BitVec.ofInt 64 (IntKind.wrap .u64 (r_6 - 1)))))))).bind fun x_30 =>
     (M1113 a_1 b_2 r_6 n_14) ((w64 (idx_11 + 1))) ((List.set (List.set l_12 (Int.toNat idx_11) x_27) (Int.toNat (w64 (a_1 + (w64 (bitK .u64 (BitVec.ofInt 64 r_19 &&& BitVec.ofInt 64 (IntKind.wrap .u64 (r_6 - 1)))))))) x_28)) b_20
    else
    some l_12
def M1114 (a_1 : Int) (b_2 : Int) (l_3 : List TSpan) : Option (List TSpan) :=
 bif decide ((w64 (b_2 - a_1)) ≥ 8) then
  (M1111 ((w64 (b_2 - a_1)))).bind fun r_6 =>
  (M1113 a_1 b_2 r_6 (((w64 ((w64 (a_1 + (w64 ((w64 (Int.tdiv (w64 (b_2 - a_1)) 4)) * 2)))) + 1)) + 1 - (w64 ((w64 (a_1 + (w64 ((w64 (Int.tdiv (w64 (b_2 - a_1)) 4)) * 2)))) - 1)) : Int).toNat + 1) ((w64 ((w64 (a_1 + (w64 ((w64 (Int.tdiv (w64 (b_2 - a_1)) 4)) * 2)))) - 1))) l_3 ((IntKind.wrap .u64 (w64 (b_2 - a_1))))).bind fun l_15 =>
  some l_15
 else
 some l_3
def M1115 (a_17 : Int) (b_18 : Int) (wasBalanced_20 : Bool) (wasPartitioned_21 : Bool) (nx_24 : Int → Int → Int → Bool → Bool → (List TSpan) → Option (List TSpan)) (limit_34 : Int) (pivot_44 : Int) (rc_9046 : Int → Int → Int → (List TSpan) → Option (List TSpan)) (l_55 : List TSpan) : Option (List TSpan) :=
 Option.bind (
  bif decide (a_17 > 0) then
   (idx l_55 (w64 (a_17 - 1))).bind fun x_59 =>
   (idx l_55 pivot_44).bind fun x_60 =>
   (M1077 x_59 x_60).bind fun r_61 =>
   some (!(decide (r_61 < 0)))
  else
  some false
 ) fun v_56 =>
 bif v_56 then
  (M1104 a_17 b_18 pivot_44 l_55).bind fun (r_64, l_65) =>
  (lenIs l_65 l_55).bind fun _ =>
  nx_24 r_64 b_18 limit_34 wasBalanced_20 wasPartitioned_21 l_65
 else
 (M1110 a_17 b_18 pivot_44 l_55).bind fun (r_68, r_69, l_70) =>
 (lenIs l_70 l_55).bind fun _ =>
 bif decide ((w64 (r_68 - a_17)) < (w64 (b_18 - r_68))) then
  (rc_9046 a_17 r_68 limit_34 l_70).bind fun l_74 =>
  (lenIs l_74 l_70).bind fun _ =>
  nx_24 ((w64 (r_68 + 1))) b_18 limit_34 ((decide ((w64 (r_68 - a_17)) ≥ (w64 (Int.tdiv (w64 (b_18 - a_17)) 8))))) r_69 l_74
 else
 (rc_9046 ((w64 (r_68 + 1))) b_18 limit_34 l_70).bind fun l_77 =>
 (lenIs l_77 l_70).bind fun _ =>
 nx_24 a_17 r_68 limit_34 ((decide ((w64 (b_18 - r_68)) ≥ (w64 (Int.tdiv (w64 (b_18 - a_17)) 8))))) r_69 l_77
def M1116 (rc_9046 : Int → Int → Int → (List TSpan) → Option (List TSpan)) : Nat → Int → Int → Int → Bool → Bool → (List TSpan) → Option (List TSpan)
  | 0, _, _, _, _, _, _ => none
  | n_23 + 1, a_17, b_18, limit_19, wasBalanced_20, wasPartitioned_21, l_22 =>
    bif decide ((w64 (b_18 - a_17)) ≤ 12) then
     (M1080 a_17 b_18 l_22).bind fun l_27 =>
     (lenIs l_27 l_22).bind fun _ =>
     some l_27
    else
    bif limit_19 == 0 then
     (M1086 a_17 b_18 l_22).bind fun l_31 =>
     (lenIs l_31 l_22).bind fun _ =>
     some l_31
    else
    Option.bind (
     bif !wasBalanced_20 then
      (M1114 a_17 b_18 l_22).bind fun l_38 =>
      (lenIs l_38 l_22).bind fun _ =>
      some ((w64 (limit_19 - 1)), l_38)
     else
     some (limit_19, l_22)
    ) fun (limit_34, l_35) =>
    (M1090 l_35 a_17 b_18).bind fun (r_41, r_42) =>
    Option.bind (
     bif r_42 == 2 then
      (M1092 a_17 b_18 l_35).bind fun l_49 =>
      (lenIs l_49 l_35).bind fun _ =>
      some ((w64 ((w64 (b_18 - 1)) - (w64 (r_41 - a_17)))), 1, l_49)
     else
     some (r_41, r_42, l_35)
    ) fun (pivot_44, hint_45, l_46) =>
    bif wasBalanced_20 && (wasPartitioned_21 && (hint_45 == 1)) then
     (M1100 a_17 b_18 l_46).bind fun (r_81, l_82) =>
     (lenIs l_82 l_46).bind fun _ =>
     bif r_81 then some l_82 else
     M1115 a_17 b_18 wasBalanced_20 wasPartitioned_21 (M1116 rc_9046 n_23) limit_34 pivot_44 rc_9046 l_82
    else
    M1115 a_17 b_18 wasBalanced_20 wasPartitioned_21 (M1116 rc_9046 n_23) limit_34 pivot_44 rc_9046 l_46
def M1117 (rc_9046 : Int → Int → Int → (List TSpan) → Option (List TSpan)) (a_1 : Int) (b_2 : Int) (limit_3 : Int) (l_4 : List TSpan) : Option (List TSpan) :=
 M1116 rc_9046 (List.length l_4 + 1) a_1 b_2 limit_3 true true l_4
def M1118 : Nat → Int → Int → Int → (List TSpan) → Option (List TSpan)
  | 0 => fun _ _ _ _ => none
  | n + 1 => M1117 (M1118 n)
def M1119 (l_1 : List TSpan) : Option (List TSpan) :=
 (M1076 ((IntKind.wrap .u64 (((l_1).length : Int))))).bind fun r_3 =>
 (M1118 (List.length l_1 + 1) 0 ((((l_1).length : Int))) r_3 l_1).bind fun l_5 =>
 (lenIs l_5 l_1).bind fun _ =>
 some l_5
def M1120 (y : TSpan) (s : List TSpan) : Option (List TSpan) :=
  match y, s with
  | y_5, l_7 =>
    (app 16 l_7 (([y_5] : List TSpan))).bind fun l_9 =>
    some l_9
def M1121 (c_1 : List TSpan) : Option (List TSpan) :=
 (M1075 c_1).bind fun l_3 =>
 (foldO M1120 l_3 ((([] : List TSpan)))).bind fun l_10 =>
 (M1119 l_10).bind fun l_11 =>
 (lenIs l_11 l_10).bind fun _ =>
 some l_11
def M1122 (a_1 : TSpan) (b_2 : TSpan) : Option (Bool) :=
 bif (a_1.Lo == b_2.Lo) && ((a_1.Hi == b_2.Hi) && true) then some true else
 some (decide (b_2.Lo ≤ (w64 (a_1.Hi + 1))))
def M1123 (a_1 : TSpan) (b_2 : TSpan) : Option (TSpan) :=
 some ({ Lo := a_1.Lo, Hi := (maxG a_1.Hi b_2.Hi) } : TSpan)
def M1124 (l_1 : List TSpan) : Nat → Int → (List TSpan) → Option (List TSpan)
  | 0, _, _ => none
  | n_7 + 1, v_5, l_6 =>
    bif decide (v_5 < (((l_1).length : Int))) then
     (idx l_1 v_5).bind fun x_12 =>
     Option.bind (
      bif decide ((w64 ((((l_6).length : Int)) - 1)) ≥ 0) then
       (idx l_6 (w64 ((((l_6).length : Int)) - 1))).bind fun x_16 =>
       (M1122 x_16 x_12).bind fun r_17 =>
       some r_17
      else
      some false
     ) fun v_13 =>
     bif v_13 then
      (idx l_6 (w64 ((((l_6).length : Int)) - 1))).bind fun x_20 =>
      (M1123 x_20 x_12).bind fun r_21 =>
      (idx l_6 (w64 ((((l_6).length : Int)) - 1))).bind fun x_23 =>
      (M1124 l_1 n_7) ((w64 (v_5 + 1))) ((List.set l_6 (Int.toNat (w64 ((((l_6).length : Int)) - 1))) r_21))
     else
     (app 16 l_6 (([x_12] : List TSpan))).bind fun l_24 =>
     (M1124 l_1 n_7) ((w64 (v_5 + 1))) l_24
    else
    some l_6
def M1125 (l_1 : List TSpan) : Option (List TSpan) :=
 (M1124 l_1 (((((l_1).length : Int)) - 0 : Int).toNat + 1) 0 ((([] : List TSpan)))).bind fun l_8 =>
 some l_8
def M1126 (l_1 : List TSpan) : Option (List TSpan) :=
 (M1072 l_1).bind fun c_3 =>
 (M1121 c_3).bind fun r_5 =>
 (M1125 r_5).bind fun r_7 =>
 some r_7
def M1127 (l_1 : List TSpan) : Option (List TSpan × Int) :=
 (M1071 ((([l_1] : List (List TSpan))))).bind fun r_4 =>
 bif r_4 != 0 then some ((([] : List TSpan)), r_4) else
 (M1126 l_1).bind fun r_7 =>
 some (r_7, 0)
def M1128 (f_1 : TField) (x_19 : List TOutcome) : Nat → Int → Bool → (List TSpan) → Option (Bool × List TSpan)
  | 0, _, _, _ => none
  | n_29 + 1, v_26, v_27, l_28 =>
    bif decide (v_26 < (((x_19).length : Int))) then
     Option.bind (
      (idx x_19 v_26).bind fun x_38 =>
      (M1062 f_1.Clocks x_38).bind fun (r_39, r_40) =>
      bif r_40 == 0 then
       (app 16 l_28 (([r_39] : List TSpan))).bind fun l_43 =>
       bif v_27 then some (true, l_43) else
       some (x_38.Out, l_43)
      else
      bif v_27 then some (true, l_28) else
      some (x_38.Out, l_28)
     ) fun (v_35, l_36) =>
     (M1128 f_1 x_19 n_29) ((w64 (v_26 + 1))) v_35 l_36
    else
    some (v_27, l_28)
def M1129 (f_1 : TField) (x_6 : TRunner) : Nat → Int → Bool → (List TSpan) → Option (Bool × List TSpan)
  | 0, _, _, _ => none
  | n_13 + 1, v_10, v_11, l_12 =>
    bif decide (v_10 < (((x_6.Worlds).length : Int))) then
     (idx x_6.Worlds v_10).bind fun x_19 =>
     (M1060 f_1 v_10).bind fun r_20 =>
     bif !r_20 then (M1129 f_1 x_6 n_13) ((w64 (v_10 + 1))) v_11 l_12 else
     (M1128 f_1 x_19 (((((x_19).length : Int)) - 0 : Int).toNat + 1) 0 v_11 l_12).bind fun (v_30, l_31) =>
     (M1129 f_1 x_6 n_13) ((w64 (v_10 + 1))) v_30 l_31
    else
    some (v_11, l_12)
def M1130 (f_1 : TField) (runner_2 : Int) : Option (List TSpan × Bool × Int) :=
 (idx f_1.Runners runner_2).bind fun x_6 =>
 (M1129 f_1 x_6 (((((x_6.Worlds).length : Int)) - 0 : Int).toNat + 1) 0 false ((([] : List TSpan)))).bind fun (v_14, l_15) =>
 (M1127 l_15).bind fun (r_48, r_49) =>
 some (r_48, v_14, r_49)
def M1131 (a_1 : List TSpan) (b_2 : List TSpan) : Option (List TSpan × List TSpan) :=
 some (a_1, b_2)
def M1132 (c_2 : List TSpan) (x_9 : TSpan) (k_14 : Unit → Option (List TSpan)) : Nat → Int → Option (List TSpan)
  | 0, _ => none
  | n_12 + 1, v_11 =>
    bif decide (v_11 < (((c_2).length : Int))) then
     (idx c_2 v_11).bind fun x_16 =>
     Option.bind (
      (M1132 c_2 x_9 k_14 n_12) ((w64 (v_11 + 1)))
     ) fun l => some (({ Lo := (w64 (x_9.Lo + x_16.Lo)), Hi := (w64 (x_9.Hi + x_16.Hi)) } : TSpan) :: l)
    else
    k_14 ()
def M1133 (v_4 : Int) (nx_6 : Int → Option (List TSpan)) (_ : Unit) : Option (List TSpan) :=
 nx_6 ((w64 (v_4 + 1)))
def M1134 (c_1 : List TSpan) (c_2 : List TSpan) (k_7 : Unit → Option (List TSpan)) : Nat → Int → Option (List TSpan)
  | 0, _ => none
  | n_5 + 1, v_4 =>
    bif decide (v_4 < (((c_1).length : Int))) then
     (idx c_1 v_4).bind fun x_9 =>
     M1132 c_2 x_9 (M1133 v_4 (M1134 c_1 c_2 k_7 n_5)) (((((c_2).length : Int)) - 0 : Int).toNat + 1) 0
    else
    k_7 ()
def M1135 (_ : Unit) : Option (List TSpan) :=
 some []
def M1136 (c_1 : List TSpan) (c_2 : List TSpan) : Option (List TSpan) :=
 M1134 c_1 c_2 M1135 (((((c_1).length : Int)) - 0 : Int).toNat + 1) 0
def M1137 (l_1 : List TSpan) : Option (List TSpan × Int) :=
 bif decide ((((l_1).length : Int)) > 4096) then some ((([] : List TSpan)), 2) else
 some (l_1, 0)
def M1138 (y : TSpan) (s : Int × List TSpan) : Option ((Int × List TSpan) ⊕ (Int)) :=
  match y, s with
  | y_18, (v_21, l_22) =>
    (M1063 y_18).bind fun r_25 =>
    bif r_25 != 0 then some (.inr r_25) else
    (app 16 l_22 (([y_18] : List TSpan))).bind fun l_28 =>
    some (.inl (r_25, l_28))
def M1139 (a_1 : List TSpan) (b_2 : List TSpan) : Option (List TSpan × Int) :=
 (M1071 ((([a_1, b_2] : List (List TSpan))))).bind fun r_5 =>
 bif r_5 != 0 then some ((([] : List TSpan)), r_5) else
 (M1126 a_1).bind fun r_8 =>
 (M1126 b_2).bind fun r_10 =>
 bif decide ((w64 ((((r_8).length : Int)) * (((r_10).length : Int)))) > 65536) then some ((([] : List TSpan)), 2) else
 (M1131 r_8 r_10).bind fun (c_13, c_14) =>
 (M1136 c_13 c_14).bind fun l_16 =>
 (foldE M1138 l_16 (r_5, (([] : List TSpan)))).bind fun q => match q with
 | .inl (v_29, l_30) =>
  (M1126 l_30).bind fun r_31 =>
  (M1137 r_31).bind fun (r_33, r_34) =>
  some (r_33, r_34)
 | .inr v_37 =>
  some ((([] : List TSpan)), v_37)
def M1140 (f_1 : List TField) (bib_2 : Int) (k_15 : Bool → (List (List TSpan)) → Option (TTotal × Int)) : Nat → Int → Bool → (List (List TSpan)) → Option (TTotal × Int)
  | 0, _, _, _ => none
  | n_11 + 1, v_8, v_9, l_10 =>
    bif decide (v_8 < (((f_1).length : Int))) then
     (idx f_1 v_8).bind fun x_17 =>
     (M1054 x_17 bib_2).bind fun (r_18, r_19) =>
     bif !r_19 then some (({ Bib := bib_2, Sums := (([] : List TSpan)), Out := true } : TTotal), 0) else
     (M1130 x_17 r_18).bind fun (r_22, r_23, r_24) =>
     bif r_24 != 0 then some (({ Bib := 0, Sums := (([] : List TSpan)), Out := false } : TTotal), r_24) else
     bif (((r_22).length : Int)) == 0 then some (({ Bib := bib_2, Sums := (([] : List TSpan)), Out := true } : TTotal), 0) else
     (app 24 l_10 (([r_22] : List (List TSpan)))).bind fun l_28 =>
     bif v_9 then (M1140 f_1 bib_2 k_15 n_11) ((w64 (v_8 + 1))) true l_28 else
     (M1140 f_1 bib_2 k_15 n_11) ((w64 (v_8 + 1))) r_23 l_28
    else
    k_15 v_9 l_10
def M1141 (l_31 : List (List TSpan)) (k_42 : Int → (List TSpan) → Option (TTotal × Int)) : Nat → Int → Int → (List TSpan) → Option (TTotal × Int)
  | 0, _, _, _ => none
  | n_38 + 1, e_35, v_36, v_37 =>
    bif decide (v_36 < (((l_31).length : Int))) then
     (idx l_31 v_36).bind fun x_44 =>
     (M1139 v_37 x_44).bind fun (r_45, r_46) =>
     bif r_46 != 0 then some (({ Bib := 0, Sums := (([] : List TSpan)), Out := false } : TTotal), r_46) else
     (M1141 l_31 k_42 n_38) r_46 ((w64 (v_36 + 1))) r_45
    else
    k_42 e_35 v_37
def M1142 (bib_2 : Int) (v_12 : Bool) (e_39 : Int) (v_40 : List TSpan) : Option (TTotal × Int) :=
 some (({ Bib := bib_2, Sums := v_40, Out := v_12 } : TTotal), 0)
def M1143 (bib_2 : Int) (v_12 : Bool) (l_13 : List (List TSpan)) : Option (TTotal × Int) :=
 (idx l_13 0).bind fun x_30 =>
 (slcFrom l_13 1).bind fun l_31 =>
 M1141 l_31 (M1142 bib_2 v_12) (((((l_31).length : Int)) - 0 : Int).toNat + 1) 0 0 x_30
def M1144 (f_1 : List TField) (bib_2 : Int) : Option (TTotal × Int) :=
 M1140 f_1 bib_2 (M1143 bib_2) (((((f_1).length : Int)) - 0 : Int).toNat + 1) 0 false ((([] : List (List TSpan))))
def M1145 (f_1 : List TField) (bib_2 : Int) : Option (TTotal × Int) :=
 (M1049 f_1).bind fun r_5 =>
 bif r_5 != 0 then some (({ Bib := 0, Sums := (([] : List TSpan)), Out := false } : TTotal), r_5) else
 (idx f_1 0).bind fun x_8 =>
 (M1054 x_8 bib_2).bind fun (r_9, r_10) =>
 bif !r_10 then some (({ Bib := 0, Sums := (([] : List TSpan)), Out := false } : TTotal), 250) else
 (M1144 f_1 bib_2).bind fun (r_13, r_14) =>
 some (r_13, r_14)
def M1146 (x_1 : Int) (y_2 : Int) : Option (Bool) :=
 (M1003 x_1).bind fun r_4 =>
 bif r_4 then
  (M1003 y_2).bind fun r_7 =>
  bif !r_7 then some true else
  some (decide (x_1 < y_2))
 else
 some (decide (x_1 < y_2))
def M1147 (a_1 : Int) : Nat → Int → (List Int) → Option (List Int)
  | 0, _, _ => none
  | n_18 + 1, j_16, l_17 =>
    bif decide (j_16 > a_1) then
     (idx l_17 j_16).bind fun x_23 =>
     (idx l_17 (w64 (j_16 - 1))).bind fun x_24 =>
     (M1146 x_23 x_24).bind fun r_25 =>
     bif r_25 then
      (idx l_17 (w64 (j_16 - 1))).bind fun x_28 =>
      (idx l_17 j_16).bind fun x_29 =>
      (idx l_17 j_16).bind fun x_30 =>
      (idx (List.set l_17 (Int.toNat j_16) x_28) (w64 (j_16 - 1))).bind fun x_31 =>
      (M1147 a_1 n_18) ((w64 (j_16 - 1))) ((List.set (List.set l_17 (Int.toNat j_16) x_28) (Int.toNat (w64 (j_16 - 1))) x_29))
     else
     some l_17
    else
    some l_17
def M1148 (a_1 : Int) (b_2 : Int) : Nat → Int → (List Int) → Option (List Int)
  | 0, _, _ => none
  | n_9 + 1, i_7, l_8 =>
    bif decide (i_7 < b_2) then
     (M1147 a_1 ((i_7 - a_1 : Int).toNat + 1) i_7 l_8).bind fun l_19 =>
     (M1148 a_1 b_2 n_9) ((w64 (i_7 + 1))) l_19
    else
    some l_8
def M1149 (a_1 : Int) (b_2 : Int) (l_3 : List Int) : Option (List Int) :=
 (M1148 a_1 b_2 ((b_2 - (w64 (a_1 + 1)) : Int).toNat + 1) ((w64 (a_1 + 1))) l_3).bind fun l_10 =>
 some l_10
def M1150 (hi_2 : Int) (first_3 : Int) (k_13 : (List Int) → Option (List Int)) : Nat → Int → (List Int) → Option (List Int)
  | 0, _, _ => none
  | n_10 + 1, root_8, l_9 =>
    bif decide ((w64 ((w64 (2 * root_8)) + 1)) ≥ hi_2) then k_13 l_9 else
    bif decide ((w64 ((w64 ((w64 (2 * root_8)) + 1)) + 1)) < hi_2) then
     (idx l_9 (w64 (first_3 + (w64 ((w64 (2 * root_8)) + 1))))).bind fun x_16 =>
     (idx l_9 (w64 ((w64 (first_3 + (w64 ((w64 (2 * root_8)) + 1)))) + 1))).bind fun x_17 =>
     (M1146 x_16 x_17).bind fun r_18 =>
     bif r_18 then
      (idx l_9 (w64 (first_3 + root_8))).bind fun x_21 =>
      (idx l_9 (w64 (first_3 + (w64 ((w64 ((w64 (2 * root_8)) + 1)) + 1))))).bind fun x_22 =>
      (M1146 x_21 x_22).bind fun r_23 =>
      bif !r_23 then some l_9 else
      (idx l_9 (w64 (first_3 + (w64 ((w64 ((w64 (2 * root_8)) + 1)) + 1))))).bind fun x_26 =>
      (idx l_9 (w64 (first_3 + root_8))).bind fun x_27 =>
      (idx l_9 (w64 (first_3 + root_8))).bind fun x_28 =>
      (idx (List.set l_9 (Int.toNat (w64 (first_3 + root_8))) x_26) (w64 (first_3 + (w64 ((w64 ((w64 (2 * root_8)) + 1)) + 1))))).bind fun x_29 =>
      (M1150 hi_2 first_3 k_13 n_10) ((w64 ((w64 ((w64 (2 * root_8)) + 1)) + 1))) ((List.set (List.set l_9 (Int.toNat (w64 (first_3 + root_8))) x_26) (Int.toNat (w64 (first_3 + (w64 ((w64 ((w64 (2 * root_8)) + 1)) + 1))))) x_27))
     else
     (idx l_9 (w64 (first_3 + root_8))).bind fun x_30 =>
     (idx l_9 (w64 (first_3 + (w64 ((w64 (2 * root_8)) + 1))))).bind fun x_31 =>
     (M1146 x_30 x_31).bind fun r_32 =>
     bif !r_32 then some l_9 else
     (idx l_9 (w64 (first_3 + (w64 ((w64 (2 * root_8)) + 1))))).bind fun x_35 =>
     (idx l_9 (w64 (first_3 + root_8))).bind fun x_36 =>
     (idx l_9 (w64 (first_3 + root_8))).bind fun x_37 =>
     (idx (List.set l_9 (Int.toNat (w64 (first_3 + root_8))) x_35) (w64 (first_3 + (w64 ((w64 (2 * root_8)) + 1))))).bind fun x_38 =>
     (M1150 hi_2 first_3 k_13 n_10) ((w64 ((w64 (2 * root_8)) + 1))) ((List.set (List.set l_9 (Int.toNat (w64 (first_3 + root_8))) x_35) (Int.toNat (w64 (first_3 + (w64 ((w64 (2 * root_8)) + 1))))) x_36))
    else
    (idx l_9 (w64 (first_3 + root_8))).bind fun x_39 =>
    (idx l_9 (w64 (first_3 + (w64 ((w64 (2 * root_8)) + 1))))).bind fun x_40 =>
    (M1146 x_39 x_40).bind fun r_41 =>
    bif !r_41 then some l_9 else
    (idx l_9 (w64 (first_3 + (w64 ((w64 (2 * root_8)) + 1))))).bind fun x_44 =>
    (idx l_9 (w64 (first_3 + root_8))).bind fun x_45 =>
    (idx l_9 (w64 (first_3 + root_8))).bind fun x_46 =>
    (idx (List.set l_9 (Int.toNat (w64 (first_3 + root_8))) x_44) (w64 (first_3 + (w64 ((w64 (2 * root_8)) + 1))))).bind fun x_47 =>
    (M1150 hi_2 first_3 k_13 n_10) ((w64 ((w64 (2 * root_8)) + 1))) ((List.set (List.set l_9 (Int.toNat (w64 (first_3 + root_8))) x_44) (Int.toNat (w64 (first_3 + (w64 ((w64 (2 * root_8)) + 1))))) x_45))
def M1151 (l_11 : List Int) : Option (List Int) :=
 some l_11
def M1152 (lo_1 : Int) (hi_2 : Int) (first_3 : Int) (l_4 : List Int) : Option (List Int) :=
 M1150 hi_2 first_3 M1151 (List.length l_4 + 1) lo_1 l_4
def M1153 (a_1 : Int) (b_2 : Int) : Nat → Int → (List Int) → Option (List Int)
  | 0, _, _ => none
  | n_9 + 1, i_7, l_8 =>
    bif decide (i_7 ≥ 0) then
     (M1152 i_7 ((w64 (b_2 - a_1))) a_1 l_8).bind fun l_14 =>
     (lenIs l_14 l_8).bind fun _ =>
     (M1153 a_1 b_2 n_9) ((w64 (i_7 - 1))) l_14
    else
    some l_8
def M1154 (a_1 : Int) : Nat → Int → (List Int) → Option (List Int)
  | 0, _, _ => none
  | n_22 + 1, i_20, l_21 =>
    bif decide (i_20 ≥ 0) then
     (idx l_21 (w64 (a_1 + i_20))).bind fun x_27 =>
     (idx l_21 a_1).bind fun x_28 =>
     (idx l_21 a_1).bind fun x_29 =>
     (idx (List.set l_21 (Int.toNat a_1) x_27) (w64 (a_1 + i_20))).bind fun x_30 =>
     (M1152 0 i_20 a_1 ((List.set (List.set l_21 (Int.toNat a_1) x_27) (Int.toNat (w64 (a_1 + i_20))) x_28))).bind fun l_31 =>
     (lenIs l_31 (List.set (List.set l_21 (Int.toNat a_1) x_27) (Int.toNat (w64 (a_1 + i_20))) x_28)).bind fun _ =>
     (M1154 a_1 n_22) ((w64 (i_20 - 1))) l_31
    else
    some l_21
def M1155 (a_1 : Int) (b_2 : Int) (l_3 : List Int) : Option (List Int) :=
 (M1153 a_1 b_2 (((w64 (Int.tdiv (w64 ((w64 (b_2 - a_1)) - 1)) 2)) + 1 - 0 : Int).toNat + 1) ((w64 (Int.tdiv (w64 ((w64 (b_2 - a_1)) - 1)) 2))) l_3).bind fun l_10 =>
 (M1154 a_1 (((w64 ((w64 (b_2 - a_1)) - 1)) + 1 - 0 : Int).toNat + 1) ((w64 ((w64 (b_2 - a_1)) - 1))) l_10).bind fun l_23 =>
 some l_23
def M1156 (data_1 : List Int) (a_2 : Int) (b_3 : Int) (v_4 : Int) : Option (Int × Int × Int) :=
 (idx data_1 b_3).bind fun x_8 =>
 (idx data_1 a_2).bind fun x_9 =>
 (M1146 x_8 x_9).bind fun r_10 =>
 bif r_10 then some (b_3, a_2, (w64 (v_4 + 1))) else
 some (a_2, b_3, v_4)
def M1157 (data_1 : List Int) (a_2 : Int) (b_3 : Int) (c_4 : Int) (v_5 : Int) : Option (Int × Int) :=
 (M1156 data_1 a_2 b_3 v_5).bind fun (r_8, r_9, b_10) =>
 (M1156 data_1 r_9 c_4 b_10).bind fun (r_12, r_13, b_14) =>
 (M1156 data_1 r_8 r_12 b_14).bind fun (r_16, r_17, b_18) =>
 some (r_17, b_18)
def M1158 (data_1 : List Int) (a_2 : Int) (v_3 : Int) : Option (Int × Int) :=
 (M1157 data_1 ((w64 (a_2 - 1))) a_2 ((w64 (a_2 + 1))) v_3).bind fun (r_6, b_7) =>
 some (r_6, b_7)
def M1159 (data_1 : List Int) (a_2 : Int) (b_3 : Int) : Option (Int × Int) :=
 bif decide ((w64 (b_3 - a_2)) ≥ 8) then
  bif decide ((w64 (b_3 - a_2)) ≥ 50) then
   (M1158 data_1 ((w64 (a_2 + (w64 ((w64 (Int.tdiv (w64 (b_3 - a_2)) 4)) * 1))))) 0).bind fun (r_8, b_9) =>
   (M1158 data_1 ((w64 (a_2 + (w64 ((w64 (Int.tdiv (w64 (b_3 - a_2)) 4)) * 2))))) b_9).bind fun (r_11, b_12) =>
   (M1158 data_1 ((w64 (a_2 + (w64 ((w64 (Int.tdiv (w64 (b_3 - a_2)) 4)) * 3))))) b_12).bind fun (r_14, b_15) =>
   (M1157 data_1 r_8 r_11 r_14 b_15).bind fun (r_17, b_18) =>
   bif b_18 == 0 then some (r_17, 1) else
   bif b_18 == 12 then some (r_17, 2) else
   some (r_17, 0)
  else
  (M1157 data_1 ((w64 (a_2 + (w64 ((w64 (Int.tdiv (w64 (b_3 - a_2)) 4)) * 1))))) ((w64 (a_2 + (w64 ((w64 (Int.tdiv (w64 (b_3 - a_2)) 4)) * 2))))) ((w64 (a_2 + (w64 ((w64 (Int.tdiv (w64 (b_3 - a_2)) 4)) * 3))))) 0).bind fun (r_22, b_23) =>
  bif b_23 == 0 then some (r_22, 1) else
  bif b_23 == 12 then some (r_22, 2) else
  some (r_22, 0)
 else
 some ((w64 (a_2 + (w64 ((w64 (Int.tdiv (w64 (b_3 - a_2)) 4)) * 2)))), 1)
def M1160 : Nat → Int → Int → (List Int) → Option (List Int)
  | 0, _, _, _ => none
  | n_11 + 1, i_8, j_9, l_10 =>
    bif decide (i_8 < j_9) then
     (idx l_10 j_9).bind fun x_16 =>
     (idx l_10 i_8).bind fun x_17 =>
     (idx l_10 i_8).bind fun x_18 =>
     (idx (List.set l_10 (Int.toNat i_8) x_16) j_9).bind fun x_19 =>
     (M1160 n_11) ((w64 (i_8 + 1))) ((w64 (j_9 - 1))) ((List.set (List.set l_10 (Int.toNat i_8) x_16) (Int.toNat j_9) x_17))
    else
    some l_10
def M1161 (a_1 : Int) (b_2 : Int) (l_3 : List Int) : Option (List Int) :=
 (M1160 (((w64 (b_2 - 1)) - a_1 : Int).toNat + 1) a_1 ((w64 (b_2 - 1))) l_3).bind fun l_12 =>
 some l_12
def M1162 (j_10 : Int) (nx_14 : Int → Int → (List Int) → Option (Bool × List Int)) (i_17 : Int) (l_18 : List Int) : Option (Bool × List Int) :=
 nx_14 i_17 ((w64 (j_10 + 1))) l_18
def M1163 (b_2 : Int) (l_11 : List Int) : Nat → Int → Option (Int)
  | 0, _ => none
  | n_21 + 1, i_20 =>
    bif decide (i_20 < b_2) then
     (idx l_11 i_20).bind fun x_26 =>
     (idx l_11 (w64 (i_20 - 1))).bind fun x_27 =>
     (M1146 x_26 x_27).bind fun r_28 =>
     bif !r_28 then (M1163 b_2 l_11 n_21) ((w64 (i_20 + 1))) else
     some i_20
    else
    some i_20
def M1164 : Nat → Int → (List Int) → Option (List Int)
  | 0, _, _ => none
  | n_43 + 1, j_41, l_42 =>
    bif decide (j_41 ≥ 1) then
     (idx l_42 j_41).bind fun x_48 =>
     (idx l_42 (w64 (j_41 - 1))).bind fun x_49 =>
     (M1146 x_48 x_49).bind fun r_50 =>
     bif !r_50 then some l_42 else
     (idx l_42 (w64 (j_41 - 1))).bind fun x_53 =>
     (idx l_42 j_41).bind fun x_54 =>
     (idx l_42 j_41).bind fun x_55 =>
     (idx (List.set l_42 (Int.toNat j_41) x_53) (w64 (j_41 - 1))).bind fun x_56 =>
     (M1164 n_43) ((w64 (j_41 - 1))) ((List.set (List.set l_42 (Int.toNat j_41) x_53) (Int.toNat (w64 (j_41 - 1))) x_54))
    else
    some l_42
def M1165 (b_2 : Int) : Nat → Int → (List Int) → Option (List Int)
  | 0, _, _ => none
  | n_63 + 1, j_61, l_62 =>
    bif decide (j_61 < b_2) then
     (idx l_62 j_61).bind fun x_68 =>
     (idx l_62 (w64 (j_61 - 1))).bind fun x_69 =>
     (M1146 x_68 x_69).bind fun r_70 =>
     bif !r_70 then some l_62 else
     (idx l_62 (w64 (j_61 - 1))).bind fun x_73 =>
     (idx l_62 j_61).bind fun x_74 =>
     (idx l_62 j_61).bind fun x_75 =>
     (idx (List.set l_62 (Int.toNat j_61) x_73) (w64 (j_61 - 1))).bind fun x_76 =>
     (M1165 b_2 n_63) ((w64 (j_61 + 1))) ((List.set (List.set l_62 (Int.toNat j_61) x_73) (Int.toNat (w64 (j_61 - 1))) x_74))
    else
    some l_62
def M1166 (b_2 : Int) : Nat → Int → (List Int) → Option (List Int)
  | 0, _, _ => none
  | n_83 + 1, j_81, l_82 =>
    bif decide (j_81 < b_2) then
     (idx l_82 j_81).bind fun x_88 =>
     (idx l_82 (w64 (j_81 - 1))).bind fun x_89 =>
     (M1146 x_88 x_89).bind fun r_90 =>
     bif !r_90 then some l_82 else
     (idx l_82 (w64 (j_81 - 1))).bind fun x_93 =>
     (idx l_82 j_81).bind fun x_94 =>
     (idx l_82 j_81).bind fun x_95 =>
     (idx (List.set l_82 (Int.toNat j_81) x_93) (w64 (j_81 - 1))).bind fun x_96 =>
     (M1166 b_2 n_83) ((w64 (j_81 + 1))) ((List.set (List.set l_82 (Int.toNat j_81) x_93) (Int.toNat (w64 (j_81 - 1))) x_94))
    else
    some l_82
def M1167 (a_1 : Int) (b_2 : Int) (k_15 : (List Int) → Option (Bool × List Int)) : Nat → Int → Int → (List Int) → Option (Bool × List Int)
  | 0, _, _, _ => none
  | n_12 + 1, i_9, j_10, l_11 =>
    bif decide (j_10 < 5) then
     (M1163 b_2 l_11 ((b_2 - i_9 : Int).toNat + 1) i_9).bind fun i_22 =>
     bif i_22 == b_2 then some (true, l_11) else
     bif decide ((w64 (b_2 - a_1)) < 50) then some (false, l_11) else
     (idx l_11 (w64 (i_22 - 1))).bind fun x_34 =>
     (idx l_11 i_22).bind fun x_35 =>
     (idx l_11 i_22).bind fun x_36 =>
     (idx (List.set l_11 (Int.toNat i_22) x_34) (w64 (i_22 - 1))).bind fun x_37 =>
     bif decide ((w64 (i_22 - a_1)) ≥ 2) then
      (M1164 (((w64 (i_22 - 1)) + 1 - 1 : Int).toNat + 1) ((w64 (i_22 - 1))) ((List.set (List.set l_11 (Int.toNat i_22) x_34) (Int.toNat (w64 (i_22 - 1))) x_35))).bind fun l_44 =>
      bif decide ((w64 (b_2 - i_22)) ≥ 2) then
       (M1165 b_2 ((b_2 - (w64 (i_22 + 1)) : Int).toNat + 1) ((w64 (i_22 + 1))) l_44).bind fun l_64 =>
       M1162 j_10 (M1167 a_1 b_2 k_15 n_12) i_22 l_64
      else
      M1162 j_10 (M1167 a_1 b_2 k_15 n_12) i_22 l_44
     else
     bif decide ((w64 (b_2 - i_22)) ≥ 2) then
      (M1166 b_2 ((b_2 - (w64 (i_22 + 1)) : Int).toNat + 1) ((w64 (i_22 + 1))) ((List.set (List.set l_11 (Int.toNat i_22) x_34) (Int.toNat (w64 (i_22 - 1))) x_35))).bind fun l_84 =>
      M1162 j_10 (M1167 a_1 b_2 k_15 n_12) i_22 l_84
     else
     M1162 j_10 (M1167 a_1 b_2 k_15 n_12) i_22 ((List.set (List.set l_11 (Int.toNat i_22) x_34) (Int.toNat (w64 (i_22 - 1))) x_35))
    else
    k_15 l_11
def M1168 (l_13 : List Int) : Option (Bool × List Int) :=
 some (false, l_13)
def M1169 (a_1 : Int) (b_2 : Int) (l_3 : List Int) : Option (Bool × List Int) :=
 M1167 a_1 b_2 M1168 ((5 - 0 : Int).toNat + 1) ((w64 (a_1 + 1))) 0 l_3
def M1170 (a_1 : Int) (j_15 : Int) (l_16 : List Int) : Nat → Int → Option (Int)
  | 0, _ => none
  | n_24 + 1, i_23 =>
    bif decide (i_23 ≤ j_15) then
     (idx l_16 a_1).bind fun x_29 =>
     (idx l_16 i_23).bind fun x_30 =>
     (M1146 x_29 x_30).bind fun r_31 =>
     bif !r_31 then (M1170 a_1 j_15 l_16 n_24) ((w64 (i_23 + 1))) else
     some i_23
    else
    some i_23
def M1171 (a_1 : Int) (l_16 : List Int) (i_25 : Int) : Nat → Int → Option (Int)
  | 0, _ => none
  | n_37 + 1, j_36 =>
    bif decide (i_25 ≤ j_36) then
     (idx l_16 a_1).bind fun x_42 =>
     (idx l_16 j_36).bind fun x_43 =>
     (M1146 x_42 x_43).bind fun r_44 =>
     bif r_44 then (M1171 a_1 l_16 i_25 n_37) ((w64 (j_36 - 1))) else
     some j_36
    else
    some j_36
def M1172 (a_1 : Int) : Nat → Int → Int → (List Int) → Option (Int × List Int)
  | 0, _, _, _ => none
  | n_17 + 1, i_14, j_15, l_16 =>
    (M1170 a_1 j_15 l_16 ((j_15 + 1 - i_14 : Int).toNat + 1) i_14).bind fun i_25 =>
    (M1171 a_1 l_16 i_25 ((j_15 + 1 - i_25 : Int).toNat + 1) j_15).bind fun j_38 =>
    bif decide (i_25 > j_38) then some (i_25, l_16) else
    (idx l_16 j_38).bind fun x_49 =>
    (idx l_16 i_25).bind fun x_50 =>
    (idx l_16 i_25).bind fun x_51 =>
    (idx (List.set l_16 (Int.toNat i_25) x_49) j_38).bind fun x_52 =>
    (M1172 a_1 n_17) ((w64 (i_25 + 1))) ((w64 (j_38 - 1))) ((List.set (List.set l_16 (Int.toNat i_25) x_49) (Int.toNat j_38) x_50))
def M1173 (a_1 : Int) (b_2 : Int) (pivot_3 : Int) (l_4 : List Int) : Option (Int × List Int) :=
 (idx l_4 pivot_3).bind fun x_7 =>
 (idx l_4 a_1).bind fun x_8 =>
 (idx l_4 a_1).bind fun x_9 =>
 (idx (List.set l_4 (Int.toNat a_1) x_7) pivot_3).bind fun x_10 =>
 (M1172 a_1 (List.length ((List.set (List.set l_4 (Int.toNat a_1) x_7) (Int.toNat pivot_3) x_8)) + 1) ((w64 (a_1 + 1))) ((w64 (b_2 - 1))) ((List.set (List.set l_4 (Int.toNat a_1) x_7) (Int.toNat pivot_3) x_8))).bind fun (i_18, l_19) =>
 some (i_18, l_19)
def M1174 (a_1 : Int) (b_2 : Int) (pivot_3 : Int) (l_4 : List Int) (x_8 : Int) (x_9 : Int) : Nat → Int → Option (Int)
  | 0, _ => none
  | n_14 + 1, i_13 =>
    bif decide (i_13 ≤ (w64 (b_2 - 1))) then
     (idx (List.set (List.set l_4 (Int.toNat a_1) x_8) (Int.toNat pivot_3) x_9) i_13).bind fun x_19 =>
     (idx (List.set (List.set l_4 (Int.toNat a_1) x_8) (Int.toNat pivot_3) x_9) a_1).bind fun x_20 =>
     (M1146 x_19 x_20).bind fun r_21 =>
     bif r_21 then (M1174 a_1 b_2 pivot_3 l_4 x_8 x_9 n_14) ((w64 (i_13 + 1))) else
     some i_13
    else
    some i_13
def M1175 (a_1 : Int) (pivot_3 : Int) (l_4 : List Int) (x_8 : Int) (x_9 : Int) (i_15 : Int) : Nat → Int → Option (Int)
  | 0, _ => none
  | n_27 + 1, j_26 =>
    bif decide (i_15 ≤ j_26) then
     (idx (List.set (List.set l_4 (Int.toNat a_1) x_8) (Int.toNat pivot_3) x_9) j_26).bind fun x_32 =>
     (idx (List.set (List.set l_4 (Int.toNat a_1) x_8) (Int.toNat pivot_3) x_9) a_1).bind fun x_33 =>
     (M1146 x_32 x_33).bind fun r_34 =>
     bif !r_34 then (M1175 a_1 pivot_3 l_4 x_8 x_9 i_15 n_27) ((w64 (j_26 - 1))) else
     some j_26
    else
    some j_26
def M1176 (a_1 : Int) (j_51 : Int) (l_52 : List Int) : Nat → Int → Option (Int)
  | 0, _ => none
  | n_60 + 1, i_59 =>
    bif decide (i_59 ≤ j_51) then
     (idx l_52 i_59).bind fun x_65 =>
     (idx l_52 a_1).bind fun x_66 =>
     (M1146 x_65 x_66).bind fun r_67 =>
     bif r_67 then (M1176 a_1 j_51 l_52 n_60) ((w64 (i_59 + 1))) else
     some i_59
    else
    some i_59
def M1177 (a_1 : Int) (l_52 : List Int) (i_61 : Int) : Nat → Int → Option (Int)
  | 0, _ => none
  | n_73 + 1, j_72 =>
    bif decide (i_61 ≤ j_72) then
     (idx l_52 j_72).bind fun x_78 =>
     (idx l_52 a_1).bind fun x_79 =>
     (M1146 x_78 x_79).bind fun r_80 =>
     bif !r_80 then (M1177 a_1 l_52 i_61 n_73) ((w64 (j_72 - 1))) else
     some j_72
    else
    some j_72
def M1178 (a_1 : Int) : Nat → Int → Int → (List Int) → Option (Int × List Int)
  | 0, _, _, _ => none
  | n_53 + 1, i_50, j_51, l_52 =>
    (M1176 a_1 j_51 l_52 ((j_51 + 1 - i_50 : Int).toNat + 1) i_50).bind fun i_61 =>
    (M1177 a_1 l_52 i_61 ((j_51 + 1 - i_61 : Int).toNat + 1) j_51).bind fun j_74 =>
    bif decide (i_61 > j_74) then some (j_74, l_52) else
    (idx l_52 j_74).bind fun x_85 =>
    (idx l_52 i_61).bind fun x_86 =>
    (idx l_52 i_61).bind fun x_87 =>
    (idx (List.set l_52 (Int.toNat i_61) x_85) j_74).bind fun x_88 =>
    (M1178 a_1 n_53) ((w64 (i_61 + 1))) ((w64 (j_74 - 1))) ((List.set (List.set l_52 (Int.toNat i_61) x_85) (Int.toNat j_74) x_86))
def M1179 (a_1 : Int) (b_2 : Int) (pivot_3 : Int) (l_4 : List Int) : Option (Int × Bool × List Int) :=
 (idx l_4 pivot_3).bind fun x_8 =>
 (idx l_4 a_1).bind fun x_9 =>
 (idx l_4 a_1).bind fun x_10 =>
 (idx (List.set l_4 (Int.toNat a_1) x_8) pivot_3).bind fun x_11 =>
 (M1174 a_1 b_2 pivot_3 l_4 x_8 x_9 (((w64 (b_2 - 1)) + 1 - (w64 (a_1 + 1)) : Int).toNat + 1) ((w64 (a_1 + 1)))).bind fun i_15 =>
 (M1175 a_1 pivot_3 l_4 x_8 x_9 i_15 (((w64 (b_2 - 1)) + 1 - i_15 : Int).toNat + 1) ((w64 (b_2 - 1)))).bind fun j_28 =>
 bif decide (i_15 > j_28) then
  (idx (List.set (List.set l_4 (Int.toNat a_1) x_8) (Int.toNat pivot_3) x_9) a_1).bind fun x_39 =>
  (idx (List.set (List.set l_4 (Int.toNat a_1) x_8) (Int.toNat pivot_3) x_9) j_28).bind fun x_40 =>
  (idx (List.set (List.set l_4 (Int.toNat a_1) x_8) (Int.toNat pivot_3) x_9) j_28).bind fun x_41 =>
  (idx (List.set (List.set (List.set l_4 (Int.toNat a_1) x_8) (Int.toNat pivot_3) x_9) (Int.toNat j_28) x_39) a_1).bind fun x_42 =>
  some (j_28, true, (List.set (List.set (List.set (List.set l_4 (Int.toNat a_1) x_8) (Int.toNat pivot_3) x_9) (Int.toNat j_28) x_39) (Int.toNat a_1) x_40))
 else
 (idx (List.set (List.set l_4 (Int.toNat a_1) x_8) (Int.toNat pivot_3) x_9) j_28).bind fun x_43 =>
 (idx (List.set (List.set l_4 (Int.toNat a_1) x_8) (Int.toNat pivot_3) x_9) i_15).bind fun x_44 =>
 (idx (List.set (List.set l_4 (Int.toNat a_1) x_8) (Int.toNat pivot_3) x_9) i_15).bind fun x_45 =>
 (idx (List.set (List.set (List.set l_4 (Int.toNat a_1) x_8) (Int.toNat pivot_3) x_9) (Int.toNat i_15) x_43) j_28).bind fun x_46 =>
 (M1178 a_1 (List.length ((List.set (List.set (List.set (List.set l_4 (Int.toNat a_1) x_8) (Int.toNat pivot_3) x_9) (Int.toNat i_15) x_43) (Int.toNat j_28) x_44)) + 1) ((w64 (i_15 + 1))) ((w64 (j_28 - 1))) ((List.set (List.set (List.set (List.set l_4 (Int.toNat a_1) x_8) (Int.toNat pivot_3) x_9) (Int.toNat i_15) x_43) (Int.toNat j_28) x_44))).bind fun (j_54, l_55) =>
 (idx l_55 a_1).bind fun x_90 =>
 (idx l_55 j_54).bind fun x_91 =>
 (idx l_55 j_54).bind fun x_92 =>
 (idx (List.set l_55 (Int.toNat j_54) x_90) a_1).bind fun x_93 =>
 some (j_54, false, (List.set (List.set l_55 (Int.toNat j_54) x_90) (Int.toNat a_1) x_91))
def M1180 (a_1 : Int) (b_2 : Int) (r_6 : Int) : Nat → Int → (List Int) → Int → Option (List Int)
  | 0, _, _, _ => none
  | n_14 + 1, idx_11, l_12, v_13 =>
    bif decide (idx_11 ≤ (w64 ((w64 (a_1 + (w64 ((w64 (Int.tdiv (w64 (b_2 - a_1)) 4)) * 2)))) + 1))) then
     (M1112 v_13).bind fun (r_19, b_20) =>
     bif decide ((w64 (bitK .u64 (BitVec.ofInt 64 r_19 &&& BitVec.ofInt 64 (IntKind.wrap .u64 (r_6 - 1))))) ≥ (w64 (b_2 - a_1))) then
      (idx l_12 (w64 (a_1 + (w64 ((w64 (bitK .u64 (BitVec.ofInt 64 r_19 &&& BitVec.ofInt 64 (IntKind.wrap .u64 (r_6 - 1))))) - (w64 (b_2 - a_1))))))).bind fun x_23 =>
      (idx l_12 idx_11).bind fun x_24 =>
      (idx l_12 idx_11).bind fun x_25 =>
      (idx (List.set l_12 (Int.toNat idx_11) x_23) (w64 (a_1 + (w64 ((w64 (bitK .u64 (BitVec.ofInt 64 r_19 &&& BitVec.ofInt 64 (IntKind.wrap .u64 (r_6 - 1))))) - (w64 (b_2 - a_1))))))).bind fun x_26 =>
      (M1180 a_1 b_2 r_6 n_14) ((w64 (idx_11 + 1))) ((List.set (List.set l_12 (Int.toNat idx_11) x_23) (Int.toNat (w64 (a_1 + (w64 ((w64 (bitK .u64 (BitVec.ofInt 64 r_19 &&& BitVec.ofInt 64 (IntKind.wrap .u64 (r_6 - 1))))) - (w64 (b_2 - a_1))))))) x_24)) b_20
     else
     (idx l_12 (w64 (a_1 + (w64 (bitK .u64 (BitVec.ofInt 64 r_19 &&& BitVec.ofInt 64 (IntKind.wrap .u64 (r_6 - 1)))))))).bind fun x_27 =>
     (idx l_12 idx_11).bind fun x_28 =>
     (idx l_12 idx_11).bind fun x_29 =>
     (idx (List.set l_12 (Int.toNat idx_11) x_27) (w64 (a_1 + (w64 (bitK .u64 (BitVec.ofInt 64 r_19 &&& BitVec.ofInt 64 (IntKind.wrap .u64 (r_6 - 1)))))))).bind fun x_30 =>
     (M1180 a_1 b_2 r_6 n_14) ((w64 (idx_11 + 1))) ((List.set (List.set l_12 (Int.toNat idx_11) x_27) (Int.toNat (w64 (a_1 + (w64 (bitK .u64 (BitVec.ofInt 64 r_19 &&& BitVec.ofInt 64 (IntKind.wrap .u64 (r_6 - 1)))))))) x_28)) b_20
    else
    some l_12
def M1181 (a_1 : Int) (b_2 : Int) (l_3 : List Int) : Option (List Int) :=
 bif decide ((w64 (b_2 - a_1)) ≥ 8) then
  (M1111 ((w64 (b_2 - a_1)))).bind fun r_6 =>
  (M1180 a_1 b_2 r_6 (((w64 ((w64 (a_1 + (w64 ((w64 (Int.tdiv (w64 (b_2 - a_1)) 4)) * 2)))) + 1)) + 1 - (w64 ((w64 (a_1 + (w64 ((w64 (Int.tdiv (w64 (b_2 - a_1)) 4)) * 2)))) - 1)) : Int).toNat + 1) ((w64 ((w64 (a_1 + (w64 ((w64 (Int.tdiv (w64 (b_2 - a_1)) 4)) * 2)))) - 1))) l_3 ((IntKind.wrap .u64 (w64 (b_2 - a_1))))).bind fun l_15 =>
  some l_15
 else
 some l_3
def M1182 (a_17 : Int) (b_18 : Int) (wasBalanced_20 : Bool) (wasPartitioned_21 : Bool) (nx_24 : Int → Int → Int → Bool → Bool → (List Int) → Option (List Int)) (limit_34 : Int) (pivot_44 : Int) (rc_9070 : Int → Int → Int → (List Int) → Option (List Int)) (l_55 : List Int) : Option (List Int) :=
 Option.bind (
  bif decide (a_17 > 0) then
   (idx l_55 (w64 (a_17 - 1))).bind fun x_59 =>
   (idx l_55 pivot_44).bind fun x_60 =>
   (M1146 x_59 x_60).bind fun r_61 =>
   some (!r_61)
  else
  some false
 ) fun v_56 =>
 bif v_56 then
  (M1173 a_17 b_18 pivot_44 l_55).bind fun (r_64, l_65) =>
  (lenIs l_65 l_55).bind fun _ =>
  nx_24 r_64 b_18 limit_34 wasBalanced_20 wasPartitioned_21 l_65
 else
 (M1179 a_17 b_18 pivot_44 l_55).bind fun (r_68, r_69, l_70) =>
 (lenIs l_70 l_55).bind fun _ =>
 bif decide ((w64 (r_68 - a_17)) < (w64 (b_18 - r_68))) then
  (rc_9070 a_17 r_68 limit_34 l_70).bind fun l_74 =>
  (lenIs l_74 l_70).bind fun _ =>
  nx_24 ((w64 (r_68 + 1))) b_18 limit_34 ((decide ((w64 (r_68 - a_17)) ≥ (w64 (Int.tdiv (w64 (b_18 - a_17)) 8))))) r_69 l_74
 else
 (rc_9070 ((w64 (r_68 + 1))) b_18 limit_34 l_70).bind fun l_77 =>
 (lenIs l_77 l_70).bind fun _ =>
 nx_24 a_17 r_68 limit_34 ((decide ((w64 (b_18 - r_68)) ≥ (w64 (Int.tdiv (w64 (b_18 - a_17)) 8))))) r_69 l_77
def M1183 (rc_9070 : Int → Int → Int → (List Int) → Option (List Int)) : Nat → Int → Int → Int → Bool → Bool → (List Int) → Option (List Int)
  | 0, _, _, _, _, _, _ => none
  | n_23 + 1, a_17, b_18, limit_19, wasBalanced_20, wasPartitioned_21, l_22 =>
    bif decide ((w64 (b_18 - a_17)) ≤ 12) then
     (M1149 a_17 b_18 l_22).bind fun l_27 =>
     (lenIs l_27 l_22).bind fun _ =>
     some l_27
    else
    bif limit_19 == 0 then
     (M1155 a_17 b_18 l_22).bind fun l_31 =>
     (lenIs l_31 l_22).bind fun _ =>
     some l_31
    else
    Option.bind (
     bif !wasBalanced_20 then
      (M1181 a_17 b_18 l_22).bind fun l_38 =>
      (lenIs l_38 l_22).bind fun _ =>
      some ((w64 (limit_19 - 1)), l_38)
     else
     some (limit_19, l_22)
    ) fun (limit_34, l_35) =>
    (M1159 l_35 a_17 b_18).bind fun (r_41, r_42) =>
    Option.bind (
     bif r_42 == 2 then
      (M1161 a_17 b_18 l_35).bind fun l_49 =>
      (lenIs l_49 l_35).bind fun _ =>
      some ((w64 ((w64 (b_18 - 1)) - (w64 (r_41 - a_17)))), 1, l_49)
     else
     some (r_41, r_42, l_35)
    ) fun (pivot_44, hint_45, l_46) =>
    bif wasBalanced_20 && (wasPartitioned_21 && (hint_45 == 1)) then
     (M1169 a_17 b_18 l_46).bind fun (r_81, l_82) =>
     (lenIs l_82 l_46).bind fun _ =>
     bif r_81 then some l_82 else
     M1182 a_17 b_18 wasBalanced_20 wasPartitioned_21 (M1183 rc_9070 n_23) limit_34 pivot_44 rc_9070 l_82
    else
    M1182 a_17 b_18 wasBalanced_20 wasPartitioned_21 (M1183 rc_9070 n_23) limit_34 pivot_44 rc_9070 l_46
def M1184 (rc_9070 : Int → Int → Int → (List Int) → Option (List Int)) (a_1 : Int) (b_2 : Int) (limit_3 : Int) (l_4 : List Int) : Option (List Int) :=
 M1183 rc_9070 (List.length l_4 + 1) a_1 b_2 limit_3 true true l_4
def M1185 : Nat → Int → Int → Int → (List Int) → Option (List Int)
  | 0 => fun _ _ _ _ => none
  | n + 1 => M1184 (M1185 n)
def M1186 (l_1 : List Int) : Option (List Int) :=
 (M1076 ((IntKind.wrap .u64 (((l_1).length : Int))))).bind fun r_3 =>
 (M1185 (List.length l_1 + 1) 0 ((((l_1).length : Int))) r_3 l_1).bind fun l_5 =>
 (lenIs l_5 l_1).bind fun _ =>
 some l_5
def M1187 (x_7 : TField) : Nat → Int → (List Int) → Option (List Int)
  | 0, _, _ => none
  | n_12 + 1, v_10, l_11 =>
    bif decide (v_10 < (((x_7.Runners).length : Int))) then
     (idx x_7.Runners v_10).bind fun x_17 =>
     (app 8 l_11 (([x_17.Bib] : List Int))).bind fun l_18 =>
     (M1187 x_7 n_12) ((w64 (v_10 + 1))) l_18
    else
    some l_11
def M1188 (f_1 : List TField) (l_20 : List Int) (k_30 : (List TTotal) → Option (List TTotal × Int)) : Nat → Int → (List TTotal) → Option (List TTotal × Int)
  | 0, _, _ => none
  | n_27 + 1, v_25, l_26 =>
    bif decide (v_25 < (((l_20).length : Int))) then
     (idx l_20 v_25).bind fun x_32 =>
     (M1144 f_1 x_32).bind fun (r_33, r_34) =>
     bif r_34 != 0 then some ((([] : List TTotal)), r_34) else
     (app 40 l_26 (([r_33] : List TTotal))).bind fun l_37 =>
     (M1188 f_1 l_20 k_30 n_27) ((w64 (v_25 + 1))) l_37
    else
    k_30 l_26
def M1189 (l_28 : List TTotal) : Option (List TTotal × Int) :=
 some (l_28, 0)
def M1190 (f_1 : List TField) : Option (List TTotal × Int) :=
 (M1049 f_1).bind fun r_4 =>
 bif r_4 != 0 then some ((([] : List TTotal)), r_4) else
 (idx f_1 0).bind fun x_7 =>
 (M1187 x_7 (((((x_7.Runners).length : Int)) - 0 : Int).toNat + 1) 0 ((([] : List Int)))).bind fun l_13 =>
 (M1186 l_13).bind fun l_20 =>
 (lenIs l_20 l_13).bind fun _ =>
 M1188 f_1 l_20 M1189 (((((l_20).length : Int)) - 0 : Int).toNat + 1) 0 ((([] : List TTotal)))
def M1191 (a_1 : List TSpan) (b_2 : List TSpan) (k_9 : Unit → Option (Bool)) : Nat → Int → Option (Bool)
  | 0, _ => none
  | n_7 + 1, i_6 =>
    bif decide (i_6 < (((a_1).length : Int))) then
     (idx a_1 i_6).bind fun x_11 =>
     (idx b_2 i_6).bind fun x_12 =>
     bif !((x_11.Lo == x_12.Lo) && ((x_11.Hi == x_12.Hi) && true)) then some false else
     (M1191 a_1 b_2 k_9 n_7) ((w64 (i_6 + 1)))
    else
    k_9 ()
def M1192 (_ : Unit) : Option (Bool) :=
 some true
def M1193 (a_1 : List TSpan) (b_2 : List TSpan) : Option (Bool) :=
 bif (((a_1).length : Int)) != (((b_2).length : Int)) then some false else
 M1191 a_1 b_2 M1192 (((((a_1).length : Int)) - 0 : Int).toNat + 1) 0
def M1194 (a_1 : TTotal) (b_2 : TTotal) : Option (Bool) :=
 bif a_1.Bib == b_2.Bib then
  bif a_1.Out == b_2.Out then
   (M1193 a_1.Sums b_2.Sums).bind fun r_6 =>
   some r_6
  else
  some false
 else
 some false
def M1195 (bib_1 : Int) (lo_2 : Int) (hi_3 : Int) (out_4 : Bool) : Option (TTotal) :=
 some ({ Bib := bib_1, Sums := (([({ Lo := lo_2, Hi := hi_3 } : TSpan)] : List TSpan)), Out := out_4 } : TTotal)
def M1196 (s_1 : List TSpan) (s_2 : List TSpan) (k_9 : Unit → Option (Bool)) : Nat → Int → Option (Bool)
  | 0, _ => none
  | n_7 + 1, v_6 =>
    bif decide (v_6 < (((s_1).length : Int))) then
     (idx s_1 v_6).bind fun x_11 =>
     (idx s_2 v_6).bind fun x_12 =>
     bif !((x_11.Lo == x_12.Lo) && ((x_11.Hi == x_12.Hi) && true)) then some false else
     (M1196 s_1 s_2 k_9 n_7) ((w64 (v_6 + 1)))
    else
    k_9 ()
def M1197 (_ : Unit) : Option (Bool) :=
 some true
def M1198 (s_1 : List TSpan) (s_2 : List TSpan) : Option (Bool) :=
 bif (((s_1).length : Int)) != (((s_2).length : Int)) then some false else
 M1196 s_1 s_2 M1197 (((((s_1).length : Int)) - 0 : Int).toNat + 1) 0
def M1199 (t_1 : TTotal) : Option (Bool) :=
 some (decide ((((t_1.Sums).length : Int)) > 0))
def M1200 (l_1 : List TTotal) (k_7 : Unit → Option (Bool)) : Nat → Int → Option (Bool)
  | 0, _ => none
  | n_5 + 1, v_4 =>
    bif decide (v_4 < (((l_1).length : Int))) then
     (idx l_1 v_4).bind fun x_9 =>
     (M1127 x_9.Sums).bind fun (r_10, r_11) =>
     Option.bind (
      bif decide (x_9.Bib < 1) then some true else
      bif decide (x_9.Bib > 9999) then some true else
      bif decide (v_4 > 0) then
       (idx l_1 (w64 (v_4 - 1))).bind fun x_18 =>
       bif decide (x_9.Bib ≤ x_18.Bib) then some true else
       bif r_11 != 0 then some true else
       (M1198 r_10 x_9.Sums).bind fun r_21 =>
       bif !r_21 then some true else
       (M1199 x_9).bind fun r_24 =>
       bif !r_24 then some (!x_9.Out) else
       some false
      else
      bif r_11 != 0 then some true else
      (M1198 r_10 x_9.Sums).bind fun r_28 =>
      bif !r_28 then some true else
      (M1199 x_9).bind fun r_31 =>
      bif !r_31 then some (!x_9.Out) else
      some false
     ) fun v_13 =>
     bif v_13 then some false else
     (M1200 l_1 k_7 n_5) ((w64 (v_4 + 1)))
    else
    k_7 ()
def M1201 (_ : Unit) : Option (Bool) :=
 some true
def M1202 (l_1 : List TTotal) : Option (Bool) :=
 M1200 l_1 M1201 (((((l_1).length : Int)) - 0 : Int).toNat + 1) 0
def M1203 : Option (Unit) :=
 some ()
def M1204 (t_1 : TTotal) : Option (Int) :=
 (idx t_1.Sums (w64 ((((t_1.Sums).length : Int)) - 1))).bind fun x_3 =>
 some x_3.Hi
def M1205 (t_1 : TTotal) : Option (Int) :=
 (idx t_1.Sums 0).bind fun x_3 =>
 some x_3.Lo
def M1206 (a_1 : TTotal) (b_2 : TTotal) : Option (Bool) :=
 bif !a_1.Out then
  (M1204 a_1).bind fun r_5 =>
  (M1205 b_2).bind fun r_7 =>
  some (decide (r_5 < r_7))
 else
 some false
def M1207 (l_1 : List TTotal) (at_2 : Int) : Nat → Int → Int → Option (Int)
  | 0, _, _ => none
  | n_8 + 1, n_6, v_7 =>
    bif decide (v_7 < (((l_1).length : Int))) then
     Option.bind (
      (idx l_1 v_7).bind fun x_15 =>
      bif v_7 != at_2 then
       (M1199 x_15).bind fun r_17 =>
       bif r_17 then
        (idx l_1 at_2).bind fun x_20 =>
        (M1206 x_15 x_20).bind fun r_21 =>
        bif r_21 then some (w64 (n_6 + 1)) else
        some n_6
       else
       some n_6
      else
      some n_6
     ) fun n_13 =>
     (M1207 l_1 at_2 n_8) n_13 ((w64 (v_7 + 1)))
    else
    some n_6
def M1208 (l_1 : List TTotal) (at_2 : Int) : Option (Int) :=
 (M1207 l_1 at_2 (((((l_1).length : Int)) - 0 : Int).toNat + 1) 0 0).bind fun n_9 =>
 some n_9
def M1209 (i_1 : Int) (c_2 : List TTotal) : Option (Bool) :=
 (idx c_2 i_1).bind fun x_4 =>
 (M1199 x_4).bind fun r_5 =>
 bif r_5 then
  (M1203).bind fun _ =>
  (M1208 c_2 i_1).bind fun r_9 =>
  some (r_9 == 0)
 else
 some false
def M1210 (t_1 : TTotal) : Option (Int) :=
 some t_1.Bib
def M1211 (l_1 : List TTotal) (c_2 : List TTotal) : Nat → Int → (List Int) → Option (List Int)
  | 0, _, _ => none
  | n_8 + 1, v_6, l_7 =>
    bif decide (v_6 < (((l_1).length : Int))) then
     (idx l_1 v_6).bind fun x_13 =>
     (M1209 v_6 c_2).bind fun r_14 =>
     bif r_14 then
      (M1210 x_13).bind fun r_17 =>
      (app 8 l_7 (([r_17] : List Int))).bind fun l_19 =>
      (M1211 l_1 c_2 n_8) ((w64 (v_6 + 1))) l_19
     else
     (M1211 l_1 c_2 n_8) ((w64 (v_6 + 1))) l_7
    else
    some l_7
def M1212 (l_1 : List TTotal) (c_2 : List TTotal) : Option (List Int) :=
 (M1211 l_1 c_2 (((((l_1).length : Int)) - 0 : Int).toNat + 1) 0 ((([] : List Int)))).bind fun l_9 =>
 some l_9
def M1213 (l_1 : List TTotal) : Option (List Int × Int) :=
 (M1202 l_1).bind fun r_4 =>
 bif !r_4 then some ((([] : List Int)), 330) else
 (M1212 l_1 l_1).bind fun r_7 =>
 some (r_7, 0)
def M1214 : Option (Unit) :=
 some ()
def M1215 (a_1 : TTotal) (b_2 : TTotal) : Option (Bool) :=
 (M1205 a_1).bind fun r_4 =>
 (M1204 b_2).bind fun r_6 =>
 some (decide (r_4 < r_6))
def M1216 (l_1 : List TTotal) (at_2 : Int) : Nat → Int → Int → Option (Int)
  | 0, _, _ => none
  | n_8 + 1, n_6, v_7 =>
    bif decide (v_7 < (((l_1).length : Int))) then
     Option.bind (
      (idx l_1 v_7).bind fun x_15 =>
      bif v_7 != at_2 then
       (M1199 x_15).bind fun r_17 =>
       bif r_17 then
        (idx l_1 at_2).bind fun x_20 =>
        (M1215 x_15 x_20).bind fun r_21 =>
        bif r_21 then some (w64 (n_6 + 1)) else
        some n_6
       else
       some n_6
      else
      some n_6
     ) fun n_13 =>
     (M1216 l_1 at_2 n_8) n_13 ((w64 (v_7 + 1)))
    else
    some n_6
def M1217 (l_1 : List TTotal) (at_2 : Int) : Option (Int) :=
 (M1216 l_1 at_2 (((((l_1).length : Int)) - 0 : Int).toNat + 1) 0 0).bind fun n_9 =>
 some n_9
def M1218 (i_1 : Int) (c_2 : List TTotal) (c_3 : Int) : Option (Bool) :=
 (idx c_2 i_1).bind fun x_5 =>
 (M1199 x_5).bind fun r_6 =>
 bif r_6 then
  (idx c_2 i_1).bind fun x_9 =>
  bif !x_9.Out then
   (M1214).bind fun _ =>
   (M1217 c_2 i_1).bind fun r_12 =>
   some (decide (r_12 < c_3))
  else
  some false
 else
 some false
def M1219 (l_1 : List TTotal) (c_2 : List TTotal) (c_3 : Int) : Nat → Int → (List Int) → Option (List Int)
  | 0, _, _ => none
  | n_9 + 1, v_7, l_8 =>
    bif decide (v_7 < (((l_1).length : Int))) then
     (idx l_1 v_7).bind fun x_14 =>
     (M1218 v_7 c_2 c_3).bind fun r_15 =>
     bif r_15 then
      (M1210 x_14).bind fun r_18 =>
      (app 8 l_8 (([r_18] : List Int))).bind fun l_20 =>
      (M1219 l_1 c_2 c_3 n_9) ((w64 (v_7 + 1))) l_20
     else
     (M1219 l_1 c_2 c_3 n_9) ((w64 (v_7 + 1))) l_8
    else
    some l_8
def M1220 (l_1 : List TTotal) (c_2 : List TTotal) (c_3 : Int) : Option (List Int) :=
 (M1219 l_1 c_2 c_3 (((((l_1).length : Int)) - 0 : Int).toNat + 1) 0 ((([] : List Int)))).bind fun l_10 =>
 some l_10
def M1221 (i_1 : Int) (c_2 : List TTotal) (c_3 : Int) : Option (Bool) :=
 (idx c_2 i_1).bind fun x_5 =>
 (M1199 x_5).bind fun r_6 =>
 bif r_6 then
  (M1203).bind fun _ =>
  (M1208 c_2 i_1).bind fun r_10 =>
  some (decide (r_10 < c_3))
 else
 some false
def M1222 (l_1 : List TTotal) (c_2 : List TTotal) (c_3 : Int) : Nat → Int → (List Int) → Option (List Int)
  | 0, _, _ => none
  | n_9 + 1, v_7, l_8 =>
    bif decide (v_7 < (((l_1).length : Int))) then
     (idx l_1 v_7).bind fun x_14 =>
     (M1221 v_7 c_2 c_3).bind fun r_15 =>
     bif r_15 then
      (M1210 x_14).bind fun r_18 =>
      (app 8 l_8 (([r_18] : List Int))).bind fun l_20 =>
      (M1222 l_1 c_2 c_3 n_9) ((w64 (v_7 + 1))) l_20
     else
     (M1222 l_1 c_2 c_3 n_9) ((w64 (v_7 + 1))) l_8
    else
    some l_8
def M1223 (l_1 : List TTotal) (c_2 : List TTotal) (c_3 : Int) : Option (List Int) :=
 (M1222 l_1 c_2 c_3 (((((l_1).length : Int)) - 0 : Int).toNat + 1) 0 ((([] : List Int)))).bind fun l_10 =>
 some l_10
def M1224 (l_1 : List TTotal) (most_2 : Int) : Option (List Int × List Int × Int) :=
 (M1202 l_1).bind fun r_6 =>
 bif !r_6 then some ((([] : List Int)), (([] : List Int)), 330) else
 bif decide (most_2 < 0) then some ((([] : List Int)), (([] : List Int)), 1) else
 bif decide (most_2 > 4000) then some ((([] : List Int)), (([] : List Int)), 1) else
 (M1220 l_1 l_1 most_2).bind fun r_11 =>
 (M1223 l_1 l_1 most_2).bind fun r_13 =>
 some (r_11, r_13, 0)
def M1225 (a_1 : List Int) (b_2 : List Int) (k_9 : Unit → Option (Bool)) : Nat → Int → Option (Bool)
  | 0, _ => none
  | n_7 + 1, i_6 =>
    bif decide (i_6 < (((a_1).length : Int))) then
     (idx a_1 i_6).bind fun x_11 =>
     (idx b_2 i_6).bind fun x_12 =>
     bif x_11 != x_12 then some false else
     (M1225 a_1 b_2 k_9 n_7) ((w64 (i_6 + 1)))
    else
    k_9 ()
def M1226 (_ : Unit) : Option (Bool) :=
 some true
def M1227 (a_1 : List Int) (b_2 : List Int) : Option (Bool) :=
 bif (((a_1).length : Int)) != (((b_2).length : Int)) then some false else
 M1225 a_1 b_2 M1226 (((((a_1).length : Int)) - 0 : Int).toNat + 1) 0
def M1228 (l_1 : List TTotal) (leaders_2 : List Int) (sure_3 : List Int) (perhaps_4 : List Int) : Option (Bool) :=
 (M1213 l_1).bind fun (r_6, r_7) =>
 (M1224 l_1 1).bind fun (r_9, r_10, r_11) =>
 Option.bind (
  bif r_7 == 0 then
   bif r_11 == 0 then
    (M1227 r_6 leaders_2).bind fun r_17 =>
    bif r_17 then
     (M1227 r_9 sure_3).bind fun r_20 =>
     bif r_20 then
      (M1227 r_10 perhaps_4).bind fun r_23 =>
      some r_23
     else
     some false
    else
    some false
   else
   some false
  else
  some false
 ) fun v_13 =>
 some v_13
def M1229 (x_1 : Int) : Option (Bool) :=
 some (x_1 != x_1)
def M1230 (x_1 : List Int) (target_2 : Int) : Nat → Int → Int → Option (Int)
  | 0, _, _ => none
  | n_9 + 1, i_7, j_8 =>
    bif decide (i_7 < j_8) then
     (idx x_1 (w64 (shrK .u64 (IntKind.wrap .u64 (w64 (i_7 + j_8))) 1))).bind fun x_14 =>
     (M1146 x_14 target_2).bind fun r_15 =>
     bif r_15 then (M1230 x_1 target_2 n_9) ((w64 ((w64 (shrK .u64 (IntKind.wrap .u64 (w64 (i_7 + j_8))) 1)) + 1))) j_8 else
     (M1230 x_1 target_2 n_9) i_7 ((w64 (shrK .u64 (IntKind.wrap .u64 (w64 (i_7 + j_8))) 1)))
    else
    some i_7
def M1231 (x_1 : List Int) (target_2 : Int) : Option (Int × Bool) :=
 (M1230 x_1 target_2 (((((x_1).length : Int)) - 0 : Int).toNat + 1) 0 ((((x_1).length : Int)))).bind fun i_10 =>
 Option.bind (
  bif decide (i_10 < (((x_1).length : Int))) then
   (idx x_1 i_10).bind fun x_22 =>
   bif x_22 == target_2 then some true else
   (idx x_1 i_10).bind fun x_24 =>
   (M1229 x_24).bind fun r_25 =>
   bif r_25 then
    (M1229 target_2).bind fun r_28 =>
    some r_28
   else
   some false
  else
  some false
 ) fun v_19 =>
 some (i_10, v_19)
def M1232 (by_2 : Int) (r_11 : List TSpan) (k_23 : Int → (List TSpan) → Option (List TSpan × Int)) : Nat → Int → Int → (List TSpan) → Option (List TSpan × Int)
  | 0, _, _, _ => none
  | n_19 + 1, e_16, v_17, l_18 =>
    bif decide (v_17 < (((r_11).length : Int))) then
     (idx r_11 v_17).bind fun x_25 =>
     (M1063 (({ Lo := (w64 (x_25.Lo + by_2)), Hi := (w64 (x_25.Hi + by_2)) } : TSpan))).bind fun r_26 =>
     bif r_26 != 0 then some ((([] : List TSpan)), r_26) else
     (app 16 l_18 (([({ Lo := (w64 (x_25.Lo + by_2)), Hi := (w64 (x_25.Hi + by_2)) } : TSpan)] : List TSpan))).bind fun l_29 =>
     (M1232 by_2 r_11 k_23 n_19) r_26 ((w64 (v_17 + 1))) l_29
    else
    k_23 e_16 l_18
def M1233 (e_20 : Int) (l_21 : List TSpan) : Option (List TSpan × Int) :=
 some (l_21, 0)
def M1234 (a_1 : List TSpan) (by_2 : Int) : Option (List TSpan × Int) :=
 (M1071 ((([a_1] : List (List TSpan))))).bind fun r_5 =>
 bif r_5 != 0 then some ((([] : List TSpan)), r_5) else
 bif (((a_1).length : Int)) == 0 then some ((([] : List TSpan)), r_5) else
 bif decide (by_2 < (-140737488355328)) then some ((([] : List TSpan)), 10) else
 bif decide (by_2 > 140737488355328) then some ((([] : List TSpan)), 10) else
 (M1126 a_1).bind fun r_11 =>
 M1232 by_2 r_11 M1233 (((((r_11).length : Int)) - 0 : Int).toNat + 1) r_5 0 ((([] : List TSpan)))
def M1235 (bibs_2 : List Int) (amounts_3 : List Int) (k_14 : Unit → Option (List TTotal × Int)) : Nat → Int → Option (List TTotal × Int)
  | 0, _ => none
  | n_12 + 1, v_11 =>
    bif decide (v_11 < (((bibs_2).length : Int))) then
     (idx bibs_2 v_11).bind fun x_16 =>
     Option.bind (
      bif decide (v_11 > 0) then
       (idx bibs_2 (w64 (v_11 - 1))).bind fun x_20 =>
       bif decide (x_16 ≤ x_20) then some true else
       (idx amounts_3 v_11).bind fun x_22 =>
       bif decide (x_22 < 0) then some true else
       (idx amounts_3 v_11).bind fun x_24 =>
       some (decide (x_24 > 1099511627776))
      else
      (idx amounts_3 v_11).bind fun x_25 =>
      bif decide (x_25 < 0) then some true else
      (idx amounts_3 v_11).bind fun x_27 =>
      some (decide (x_27 > 1099511627776))
     ) fun v_17 =>
     bif v_17 then some ((([] : List TTotal)), 1) else
     (M1235 bibs_2 amounts_3 k_14 n_12) ((w64 (v_11 + 1)))
    else
    k_14 ()
def M1236 (bibs_2 : List Int) (amounts_3 : List Int) (l_29 : List TTotal) (k_43 : Int → (List TTotal) → Option (List TTotal × Int)) : Nat → Int → Int → (List TTotal) → Option (List TTotal × Int)
  | 0, _, _, _ => none
  | n_39 + 1, e_36, v_37, l_38 =>
    bif decide (v_37 < (((l_29).length : Int))) then
     (idx l_38 v_37).bind fun x_45 =>
     (M1231 bibs_2 x_45.Bib).bind fun (r_46, r_47) =>
     bif !r_47 then (M1236 bibs_2 amounts_3 l_29 k_43 n_39) e_36 ((w64 (v_37 + 1))) l_38 else
     (idx amounts_3 r_46).bind fun x_50 =>
     (M1234 x_45.Sums ((w64 (0 - x_50)))).bind fun (r_51, r_52) =>
     (idx l_38 v_37).bind fun x_54 =>
     bif r_52 != 0 then some ((([] : List TTotal)), r_52) else
     (M1236 bibs_2 amounts_3 l_29 k_43 n_39) r_52 ((w64 (v_37 + 1))) ((List.set l_38 (Int.toNat v_37) ({ Bib := x_54.Bib, Sums := r_51, Out := x_54.Out } : TTotal)))
    else
    k_43 e_36 l_38
def M1237 (e_40 : Int) (l_41 : List TTotal) : Option (List TTotal × Int) :=
 some (l_41, 0)
def M1238 (l_1 : List TTotal) (bibs_2 : List Int) (amounts_3 : List Int) (_ : Unit) : Option (List TTotal × Int) :=
 Option.bind (
  (app 40 (([] : List TTotal)) l_1).bind fun l_32 =>
  some l_32
 ) fun l_29 =>
 M1236 bibs_2 amounts_3 l_29 M1237 (((((l_29).length : Int)) - 0 : Int).toNat + 1) 0 0 l_29
def M1239 (l_1 : List TTotal) (bibs_2 : List Int) (amounts_3 : List Int) : Option (List TTotal × Int) :=
 (M1202 l_1).bind fun r_6 =>
 bif !r_6 then some ((([] : List TTotal)), 330) else
 bif (((bibs_2).length : Int)) != (((amounts_3).length : Int)) then some ((([] : List TTotal)), 1) else
 M1235 bibs_2 amounts_3 (M1238 l_1 bibs_2 amounts_3) (((((bibs_2).length : Int)) - 0 : Int).toNat + 1) 0
def M1240 (a_1 : List TTotal) (b_2 : List TTotal) (k_9 : Unit → Option (Bool)) : Nat → Int → Option (Bool)
  | 0, _ => none
  | n_7 + 1, i_6 =>
    bif decide (i_6 < (((a_1).length : Int))) then
     (idx a_1 i_6).bind fun x_11 =>
     (idx b_2 i_6).bind fun x_12 =>
     (M1194 x_11 x_12).bind fun r_13 =>
     bif !r_13 then some false else
     (M1240 a_1 b_2 k_9 n_7) ((w64 (i_6 + 1)))
    else
    k_9 ()
def M1241 (_ : Unit) : Option (Bool) :=
 some true
def M1242 (a_1 : List TTotal) (b_2 : List TTotal) : Option (Bool) :=
 bif (((a_1).length : Int)) != (((b_2).length : Int)) then some false else
 M1240 a_1 b_2 M1241 (((((a_1).length : Int)) - 0 : Int).toNat + 1) 0
def M1243 : Option (Bool) :=
 (M1000 10 11).bind fun r_2 =>
 (M1000 12 13).bind fun r_4 =>
 (M1001 ((([r_2] : List TOutcome))) ((([r_4] : List TOutcome)))).bind fun r_6 =>
 (M1000 5 5).bind fun r_8 =>
 (M1000 9 9).bind fun r_10 =>
 (M1001 ((([r_8, r_10] : List TOutcome))) ((([({ Out := true, Seg := (-1), Lo := 0, Hi := 0 } : TOutcome)] : List TOutcome)))).bind fun r_12 =>
 (M1145 ((([r_6, r_12] : List TField))) 1).bind fun (r_14, r_15) =>
 (M1145 ((([r_6, r_12] : List TField))) 2).bind fun (r_17, r_18) =>
 (M1145 ((([r_6] : List TField))) 3).bind fun (r_20, r_21) =>
 (M1190 ((([] : List TField)))).bind fun (r_23, r_24) =>
 Option.bind (
  bif r_15 != 0 then some true else
  bif r_18 != 0 then some true else
  bif r_21 != 250 then some true else
  bif r_24 != 330 then some true else
  (M1194 r_14 (({ Bib := 1, Sums := (([({ Lo := 15, Hi := 16 } : TSpan), ({ Lo := 19, Hi := 20 } : TSpan)] : List TSpan)), Out := false } : TTotal))).bind fun r_32 =>
  bif !r_32 then some true else
  (M1194 r_17 (({ Bib := 2, Sums := (([] : List TSpan)), Out := true } : TTotal))).bind fun r_35 =>
  some (!r_35)
 ) fun v_26 =>
 bif v_26 then some false else
 Option.bind (
  (M1195 1 10 11 false).bind fun r_40 =>
  (M1195 2 12 13 false).bind fun r_42 =>
  (M1228 ((([r_40, r_42] : List TTotal))) ((([1] : List Int))) ((([1] : List Int))) ((([1] : List Int)))).bind fun r_44 =>
  bif !r_44 then some true else
  (M1195 1 10 12 false).bind fun r_47 =>
  (M1195 2 12 13 false).bind fun r_49 =>
  (M1228 ((([r_47, r_49] : List TTotal))) ((([1, 2] : List Int))) ((([1] : List Int))) ((([1, 2] : List Int)))).bind fun r_51 =>
  bif !r_51 then some true else
  (M1195 1 10 11 true).bind fun r_54 =>
  (M1195 2 12 13 false).bind fun r_56 =>
  (M1228 ((([r_54, r_56] : List TTotal))) ((([1, 2] : List Int))) ((([] : List Int))) ((([1, 2] : List Int)))).bind fun r_58 =>
  bif !r_58 then some true else
  (M1228 ((([({ Bib := 1, Sums := (([] : List TSpan)), Out := true } : TTotal)] : List TTotal))) ((([] : List Int))) ((([] : List Int))) ((([] : List Int)))).bind fun r_61 =>
  some (!r_61)
 ) fun v_38 =>
 bif v_38 then some false else
 (M1195 1 10 11 false).bind fun r_64 =>
 (M1224 ((([r_64] : List TTotal))) 0).bind fun (r_66, r_67, r_68) =>
 (M1195 1 15 16 false).bind fun r_70 =>
 (M1239 ((([r_70] : List TTotal))) ((([1] : List Int))) ((([5] : List Int)))).bind fun (r_72, r_73) =>
 Option.bind (
  bif (w64 ((((r_66).length : Int)) + (((r_67).length : Int)))) == 0 then
   bif r_68 == 0 then
    bif r_73 == 0 then
     (M1195 1 10 11 false).bind fun r_80 =>
     (M1242 r_72 ((([r_80] : List TTotal)))).bind fun r_82 =>
     some r_82
    else
    some false
   else
   some false
  else
  some false
 ) fun v_75 =>
 some v_75
def M1244 (s_1 : TSpan) : Option (Int) :=
 bif decide (s_1.Lo < (-70368744177664)) then some 10 else
 bif decide (s_1.Hi > 70368744177664) then some 10 else
 bif decide (s_1.Lo > s_1.Hi) then some 10 else
 some 0
def M1245 (l_1 : List TSpan) (k_8 : Unit → Option (Int)) : Nat → Int → Option (Int)
  | 0, _ => none
  | n_6 + 1, i_5 =>
    bif decide (i_5 < (((l_1).length : Int))) then
     (idx l_1 i_5).bind fun x_10 =>
     (M1244 x_10).bind fun r_11 =>
     bif r_11 != 0 then some 10 else
     (M1245 l_1 k_8 n_6) ((w64 (i_5 + 1)))
    else
    k_8 ()
def M1246 (_ : Unit) : Option (Int) :=
 some 0
def M1247 (l_1 : List TSpan) : Option (Int) :=
 bif decide ((((l_1).length : Int)) > 4096) then some 2 else
 M1245 l_1 M1246 (((((l_1).length : Int)) - 0 : Int).toNat + 1) 0
def M1248 (l_1 : List TSpan) : Nat → Bool → Int → Int → Int → (List TSpan) → Option (Bool × Int × Int × List TSpan)
  | 0, _, _, _, _, _ => none
  | n_14 + 1, done_9, i_10, v_11, v_12, l_13 =>
    bif decide (i_10 < (((l_1).length : Int))) then
     Option.bind (
      (idx l_1 i_10).bind fun x_27 =>
      bif decide ((w64 (x_27.Hi + 1)) < v_11) then
       (idx l_1 i_10).bind fun x_29 =>
       (app 16 l_13 (([x_29] : List TSpan))).bind fun l_30 =>
       some (done_9, v_11, v_12, l_30)
      else
      (idx l_1 i_10).bind fun x_31 =>
      bif decide ((w64 (v_12 + 1)) < x_31.Lo) then
       bif !done_9 then
        (app 16 l_13 (([({ Lo := v_11, Hi := v_12 } : TSpan)] : List TSpan))).bind fun l_34 =>
        (idx l_1 i_10).bind fun x_35 =>
        (app 16 l_34 (([x_35] : List TSpan))).bind fun l_36 =>
        some (true, v_11, v_12, l_36)
       else
       (idx l_1 i_10).bind fun x_37 =>
       (app 16 l_13 (([x_37] : List TSpan))).bind fun l_38 =>
       some (done_9, v_11, v_12, l_38)
      else
      (idx l_1 i_10).bind fun x_39 =>
      (idx l_1 i_10).bind fun x_40 =>
      some (done_9, (minG v_11 x_39.Lo), (maxG v_12 x_40.Hi), l_13)
     ) fun (done_22, v_23, v_24, l_25) =>
     (M1248 l_1 n_14) done_22 ((w64 (i_10 + 1))) v_23 v_24 l_25
    else
    some (done_9, v_11, v_12, l_13)
def M1249 (l_1 : List TSpan) (s_2 : TSpan) : Option (List TSpan) :=
 (M1248 l_1 (((((l_1).length : Int)) - 0 : Int).toNat + 1) false 0 s_2.Lo s_2.Hi ((([] : List TSpan)))).bind fun (done_15, v_16, v_17, l_18) =>
 bif !done_15 then
  (app 16 l_18 (([({ Lo := v_16, Hi := v_17 } : TSpan)] : List TSpan))).bind fun l_43 =>
  some l_43
 else
 some l_18
def M1250 (l_1 : List TSpan) : Nat → (List TSpan) → Int → Option (List TSpan)
  | 0, _, _ => none
  | n_7 + 1, out_5, i_6 =>
    bif decide (i_6 < (((l_1).length : Int))) then
     (idx l_1 i_6).bind fun x_12 =>
     (M1249 out_5 x_12).bind fun r_13 =>
     (M1250 l_1 n_7) r_13 ((w64 (i_6 + 1)))
    else
    some out_5
def M1251 (l_1 : List TSpan) : Option (List TSpan) :=
 (M1250 l_1 (((((l_1).length : Int)) - 0 : Int).toNat + 1) ((([] : List TSpan))) 0).bind fun out_8 =>
 some out_8
def M1252 (l_1 : List TSpan) : Option (List TSpan × Int) :=
 (M1247 l_1).bind fun r_4 =>
 bif r_4 != 0 then some ((([] : List TSpan)), r_4) else
 (M1251 l_1).bind fun r_7 =>
 some (r_7, 0)
def M1253 (l_1 : List TTotal) (k_8 : Unit → Option (Bool)) : Nat → Int → Option (Bool)
  | 0, _ => none
  | n_6 + 1, i_5 =>
    bif decide (i_5 < (((l_1).length : Int))) then
     (idx l_1 i_5).bind fun x_10 =>
     bif decide ((((x_10.Sums).length : Int)) > 8) then some false else
     (M1253 l_1 k_8 n_6) ((w64 (i_5 + 1)))
    else
    k_8 ()
def M1254 (_ : Unit) : Option (Bool) :=
 some true
def M1255 (l_1 : List TTotal) : Option (Bool) :=
 bif decide ((((l_1).length : Int)) > 8) then some false else
 M1253 l_1 M1254 (((((l_1).length : Int)) - 0 : Int).toNat + 1) 0
def M1256 (l_1 : List TTotal) (k_7 : Unit → Option (Bool)) : Nat → Int → Option (Bool)
  | 0, _ => none
  | n_5 + 1, i_4 =>
    bif decide (i_4 < (((l_1).length : Int))) then
     (idx l_1 i_4).bind fun x_9 =>
     (M1252 x_9.Sums).bind fun (r_10, r_11) =>
     Option.bind (
      (idx l_1 i_4).bind fun x_15 =>
      bif decide (x_15.Bib < 1) then some true else
      (idx l_1 i_4).bind fun x_17 =>
      bif decide (x_17.Bib > 9999) then some true else
      bif decide (i_4 > 0) then
       (idx l_1 i_4).bind fun x_20 =>
       (idx l_1 (w64 (i_4 - 1))).bind fun x_21 =>
       bif decide (x_20.Bib ≤ x_21.Bib) then some true else
       bif r_11 != 0 then some true else
       (idx l_1 i_4).bind fun x_24 =>
       (M1193 r_10 x_24.Sums).bind fun r_25 =>
       bif !r_25 then some true else
       (idx l_1 i_4).bind fun x_28 =>
       bif (((x_28.Sums).length : Int)) == 0 then
        (idx l_1 i_4).bind fun x_30 =>
        some (!x_30.Out)
       else
       some false
      else
      bif r_11 != 0 then some true else
      (idx l_1 i_4).bind fun x_32 =>
      (M1193 r_10 x_32.Sums).bind fun r_33 =>
      bif !r_33 then some true else
      (idx l_1 i_4).bind fun x_36 =>
      bif (((x_36.Sums).length : Int)) == 0 then
       (idx l_1 i_4).bind fun x_38 =>
       some (!x_38.Out)
      else
      some false
     ) fun v_13 =>
     bif v_13 then some false else
     (M1256 l_1 k_7 n_5) ((w64 (i_4 + 1)))
    else
    k_7 ()
def M1257 (_ : Unit) : Option (Bool) :=
 some true
def M1258 (l_1 : List TTotal) : Option (Bool) :=
 M1256 l_1 M1257 (((((l_1).length : Int)) - 0 : Int).toNat + 1) 0
def M1259 (t_1 : TTotal) : Option (Int) :=
 (idx t_1.Sums (w64 ((((t_1.Sums).length : Int)) - 1))).bind fun x_3 =>
 some x_3.Hi
def M1260 (t_1 : TTotal) : Option (Int) :=
 (idx t_1.Sums 0).bind fun x_3 =>
 some x_3.Lo
def M1261 (l_1 : List TTotal) (at_2 : Int) : Nat → Int → Int → Int → Option (Int × Int)
  | 0, _, _, _ => none
  | n_11 + 1, certain_8, perhaps_9, i_10 =>
    bif decide (i_10 < (((l_1).length : Int))) then
     Option.bind (
      bif i_10 == at_2 then some (certain_8, perhaps_9) else
      (idx l_1 i_10).bind fun x_21 =>
      bif (((x_21.Sums).length : Int)) == 0 then some (certain_8, perhaps_9) else
      (idx l_1 i_10).bind fun x_23 =>
      bif !x_23.Out then
       (idx l_1 i_10).bind fun x_25 =>
       (M1259 x_25).bind fun r_26 =>
       (idx l_1 at_2).bind fun x_28 =>
       (M1260 x_28).bind fun r_29 =>
       bif decide (r_26 < r_29) then
        (idx l_1 i_10).bind fun x_32 =>
        (M1260 x_32).bind fun r_33 =>
        (idx l_1 at_2).bind fun x_35 =>
        (M1259 x_35).bind fun r_36 =>
        bif decide (r_33 < r_36) then some ((w64 (certain_8 + 1)), (w64 (perhaps_9 + 1))) else
        some ((w64 (certain_8 + 1)), perhaps_9)
       else
       (idx l_1 i_10).bind fun x_39 =>
       (M1260 x_39).bind fun r_40 =>
       (idx l_1 at_2).bind fun x_42 =>
       (M1259 x_42).bind fun r_43 =>
       bif decide (r_40 < r_43) then some (certain_8, (w64 (perhaps_9 + 1))) else
       some (certain_8, perhaps_9)
      else
      (idx l_1 i_10).bind fun x_46 =>
      (M1260 x_46).bind fun r_47 =>
      (idx l_1 at_2).bind fun x_49 =>
      (M1259 x_49).bind fun r_50 =>
      bif decide (r_47 < r_50) then some (certain_8, (w64 (perhaps_9 + 1))) else
      some (certain_8, perhaps_9)
     ) fun (certain_17, perhaps_18) =>
     (M1261 l_1 at_2 n_11) certain_17 perhaps_18 ((w64 (i_10 + 1)))
    else
    some (certain_8, perhaps_9)
def M1262 (l_1 : List TTotal) (at_2 : Int) : Option (Int × Int) :=
 (M1261 l_1 at_2 (((((l_1).length : Int)) - 0 : Int).toNat + 1) 0 0 0).bind fun (certain_12, perhaps_13) =>
 some (certain_12, perhaps_13)
def M1263 (l_1 : List TTotal) : Nat → Int → (List Int) → Option (List Int)
  | 0, _, _ => none
  | n_11 + 1, i_9, l_10 =>
    bif decide (i_9 < (((l_1).length : Int))) then
     (idx l_1 i_9).bind fun x_16 =>
     bif (((x_16.Sums).length : Int)) == 0 then (M1263 l_1 n_11) ((w64 (i_9 + 1))) l_10 else
     (M1262 l_1 i_9).bind fun (r_18, r_19) =>
     bif r_18 == 0 then
      (idx l_1 i_9).bind fun x_22 =>
      (app 8 l_10 (([x_22.Bib] : List Int))).bind fun l_23 =>
      (M1263 l_1 n_11) ((w64 (i_9 + 1))) l_23
     else
     (M1263 l_1 n_11) ((w64 (i_9 + 1))) l_10
    else
    some l_10
def M1264 (l_1 : List TTotal) : Option (List Int × Int) :=
 (M1258 l_1).bind fun r_4 =>
 bif !r_4 then some ((([] : List Int)), 330) else
 (M1263 l_1 (((((l_1).length : Int)) - 0 : Int).toNat + 1) 0 ((([] : List Int)))).bind fun l_12 =>
 some (l_12, 0)
def M1265 (l_1 : List TTotal) (most_2 : Int) : Nat → Int → (List Int) → (List Int) → Option (List Int × List Int)
  | 0, _, _, _ => none
  | n_17 + 1, i_14, l_15, l_16 =>
    bif decide (i_14 < (((l_1).length : Int))) then
     Option.bind (
      (idx l_1 i_14).bind fun x_26 =>
      bif (((x_26.Sums).length : Int)) == 0 then some (l_15, l_16) else
      (M1262 l_1 i_14).bind fun (r_28, r_29) =>
      Option.bind (
       (idx l_1 i_14).bind fun x_33 =>
       bif !x_33.Out then some (decide (r_29 < most_2)) else
       some false
      ) fun v_31 =>
      bif v_31 then
       (idx l_1 i_14).bind fun x_36 =>
       (app 8 l_15 (([x_36.Bib] : List Int))).bind fun l_37 =>
       bif decide (r_28 < most_2) then
        (idx l_1 i_14).bind fun x_39 =>
        (app 8 l_16 (([x_39.Bib] : List Int))).bind fun l_40 =>
        some (l_37, l_40)
       else
       some (l_37, l_16)
      else
      bif decide (r_28 < most_2) then
       (idx l_1 i_14).bind fun x_42 =>
       (app 8 l_16 (([x_42.Bib] : List Int))).bind fun l_43 =>
       some (l_15, l_43)
      else
      some (l_15, l_16)
     ) fun (l_23, l_24) =>
     (M1265 l_1 most_2 n_17) ((w64 (i_14 + 1))) l_23 l_24
    else
    some (l_15, l_16)
def M1266 (l_1 : List TTotal) (most_2 : Int) : Option (List Int × List Int × Int) :=
 (M1258 l_1).bind fun r_6 =>
 bif !r_6 then some ((([] : List Int)), (([] : List Int)), 330) else
 bif decide (most_2 < 0) then some ((([] : List Int)), (([] : List Int)), 1) else
 bif decide (most_2 > 4000) then some ((([] : List Int)), (([] : List Int)), 1) else
 (M1265 l_1 most_2 (((((l_1).length : Int)) - 0 : Int).toNat + 1) 0 ((([] : List Int))) ((([] : List Int)))).bind fun (l_18, l_19) =>
 some (l_18, l_19, 0)
def M1267 (by_2 : Int) (r_8 : List TSpan) (k_17 : (List TSpan) → Option (List TSpan × Int)) : Nat → Int → (List TSpan) → Option (List TSpan × Int)
  | 0, _, _ => none
  | n_14 + 1, i_12, l_13 =>
    bif decide (i_12 < (((r_8).length : Int))) then
     bif decide (by_2 > 140737488355328) then some ((([] : List TSpan)), 10) else
     bif decide (by_2 < (-140737488355328)) then some ((([] : List TSpan)), 10) else
     (idx r_8 i_12).bind fun x_21 =>
     (idx r_8 i_12).bind fun x_22 =>
     (M1244 (({ Lo := (w64 (x_21.Lo + by_2)), Hi := (w64 (x_22.Hi + by_2)) } : TSpan))).bind fun r_23 =>
     bif r_23 != 0 then some ((([] : List TSpan)), 10) else
     (app 16 l_13 (([({ Lo := (w64 (x_21.Lo + by_2)), Hi := (w64 (x_22.Hi + by_2)) } : TSpan)] : List TSpan))).bind fun l_26 =>
     (M1267 by_2 r_8 k_17 n_14) ((w64 (i_12 + 1))) l_26
    else
    k_17 l_13
def M1268 (l_15 : List TSpan) : Option (List TSpan × Int) :=
 some (l_15, 0)
def M1269 (a_1 : List TSpan) (by_2 : Int) : Option (List TSpan × Int) :=
 (M1247 a_1).bind fun r_5 =>
 bif r_5 != 0 then some ((([] : List TSpan)), r_5) else
 (M1251 a_1).bind fun r_8 =>
 M1267 by_2 r_8 M1268 (((((r_8).length : Int)) - 0 : Int).toNat + 1) 0 ((([] : List TSpan)))
def M1270 (bibs_2 : List Int) (amounts_3 : List Int) (k_14 : Unit → Option (List TTotal × Int)) : Nat → Int → Option (List TTotal × Int)
  | 0, _ => none
  | n_12 + 1, i_11 =>
    bif decide (i_11 < (((bibs_2).length : Int))) then
     Option.bind (
      bif decide (i_11 > 0) then
       (idx bibs_2 i_11).bind fun x_19 =>
       (idx bibs_2 (w64 (i_11 - 1))).bind fun x_20 =>
       bif decide (x_19 ≤ x_20) then some true else
       (idx amounts_3 i_11).bind fun x_22 =>
       bif decide (x_22 < 0) then some true else
       (idx amounts_3 i_11).bind fun x_24 =>
       some (decide (x_24 > 1099511627776))
      else
      (idx amounts_3 i_11).bind fun x_25 =>
      bif decide (x_25 < 0) then some true else
      (idx amounts_3 i_11).bind fun x_27 =>
      some (decide (x_27 > 1099511627776))
     ) fun v_16 =>
     bif v_16 then some ((([] : List TTotal)), 1) else
     (M1270 bibs_2 amounts_3 k_14 n_12) ((w64 (i_11 + 1)))
    else
    k_14 ()
def M1271 (bibs_2 : List Int) (amounts_3 : List Int) (i_32 : Int) (k_46 : (List TTotal) → Option (List TTotal × Int)) : Nat → Int → (List TTotal) → Option (List TTotal × Int)
  | 0, _, _ => none
  | n_43 + 1, k_41, l_42 =>
    bif decide (k_41 < (((bibs_2).length : Int))) then
     (idx bibs_2 k_41).bind fun x_48 =>
     (idx l_42 i_32).bind fun x_49 =>
     bif x_48 != x_49.Bib then (M1271 bibs_2 amounts_3 i_32 k_46 n_43) ((w64 (k_41 + 1))) l_42 else
     (idx l_42 i_32).bind fun x_51 =>
     (idx amounts_3 k_41).bind fun x_52 =>
     (M1269 x_51.Sums ((w64 (0 - x_52)))).bind fun (r_53, r_54) =>
     bif r_54 != 0 then some ((([] : List TTotal)), r_54) else
     (idx l_42 i_32).bind fun x_57 =>
     (M1271 bibs_2 amounts_3 i_32 k_46 n_43) ((w64 (k_41 + 1))) ((List.set l_42 (Int.toNat i_32) ({ Bib := x_57.Bib, Sums := r_53, Out := x_57.Out } : TTotal)))
    else
    k_46 l_42
def M1272 (i_32 : Int) (nx_36 : Int → (List TTotal) → Option (List TTotal × Int)) (l_44 : List TTotal) : Option (List TTotal × Int) :=
 nx_36 ((w64 (i_32 + 1))) l_44
def M1273 (bibs_2 : List Int) (amounts_3 : List Int) (k_37 : (List TTotal) → Option (List TTotal × Int)) : Nat → Int → (List TTotal) → Option (List TTotal × Int)
  | 0, _, _ => none
  | n_34 + 1, i_32, l_33 =>
    bif decide (i_32 < (((l_33).length : Int))) then M1271 bibs_2 amounts_3 i_32 (M1272 i_32 (M1273 bibs_2 amounts_3 k_37 n_34)) (((((bibs_2).length : Int)) - 0 : Int).toNat + 1) 0 l_33 else
    k_37 l_33
def M1274 (l_35 : List TTotal) : Option (List TTotal × Int) :=
 some (l_35, 0)
def M1275 (l_1 : List TTotal) (bibs_2 : List Int) (amounts_3 : List Int) (_ : Unit) : Option (List TTotal × Int) :=
 (app 40 (([] : List TTotal)) l_1).bind fun l_29 =>
 M1273 bibs_2 amounts_3 M1274 (((((l_29).length : Int)) - 0 : Int).toNat + 1) 0 l_29
def M1276 (l_1 : List TTotal) (bibs_2 : List Int) (amounts_3 : List Int) : Option (List TTotal × Int) :=
 (M1258 l_1).bind fun r_6 =>
 bif !r_6 then some ((([] : List TTotal)), 330) else
 bif (((bibs_2).length : Int)) != (((amounts_3).length : Int)) then some ((([] : List TTotal)), 1) else
 M1270 bibs_2 amounts_3 (M1275 l_1 bibs_2 amounts_3) (((((bibs_2).length : Int)) - 0 : Int).toNat + 1) 0
def M1277 (l_1 : List TTotal) (amount_2 : Int) : Nat → Int → (List Int) → (List Int) → (List Int) → Option (List Int × List Int × List Int)
  | 0, _, _, _, _ => none
  | n_26 + 1, i_22, l_23, l_24, l_25 =>
    bif decide (i_22 < (((l_1).length : Int))) then
     (idx l_1 i_22).bind fun x_33 =>
     (app 8 l_23 (([x_33.Bib] : List Int))).bind fun l_34 =>
     (app 8 l_24 (([amount_2] : List Int))).bind fun l_35 =>
     (app 8 l_25 (([0] : List Int))).bind fun l_36 =>
     (M1277 l_1 amount_2 n_26) ((w64 (i_22 + 1))) l_34 l_35 l_36
    else
    some (l_23, l_24, l_25)
def M1278 (l_1 : List TTotal) (amount_2 : Int) (most_3 : Int) : Option (Bool) :=
 (M1243).bind fun r_5 =>
 bif !r_5 then some false else
 Option.bind (
  (M1255 l_1).bind fun r_10 =>
  bif !r_10 then some true else
  (M1258 l_1).bind fun r_13 =>
  bif !r_13 then some true else
  bif decide (most_3 < 0) then some true else
  some (decide (most_3 > 4000))
 ) fun v_8 =>
 bif v_8 then some true else
 (M1277 l_1 amount_2 (((((l_1).length : Int)) - 0 : Int).toNat + 1) 0 ((([] : List Int))) ((([] : List Int))) ((([] : List Int)))).bind fun (l_27, l_28, l_29) =>
 (M1239 l_1 l_27 l_29).bind fun (r_38, r_39) =>
 bif r_39 != 0 then some false else
 (M1242 r_38 l_1).bind fun r_42 =>
 bif !r_42 then some false else
 (M1239 l_1 l_27 l_28).bind fun (r_45, r_46) =>
 bif r_46 != 0 then some ((((r_45).length : Int)) == 0) else
 (M1213 l_1).bind fun (r_49, r_50) =>
 (M1213 r_45).bind fun (r_52, r_53) =>
 (M1224 l_1 most_3).bind fun (r_55, r_56, r_57) =>
 (M1224 r_45 most_3).bind fun (r_59, r_60, r_61) =>
 Option.bind (
  bif r_50 == 0 then
   bif r_53 == 0 then
    bif r_57 == 0 then
     bif r_61 == 0 then
      (M1227 r_49 r_52).bind fun r_69 =>
      bif r_69 then
       (M1227 r_55 r_59).bind fun r_72 =>
       bif r_72 then
        (M1227 r_56 r_60).bind fun r_75 =>
        some r_75
       else
       some false
      else
      some false
     else
     some false
    else
    some false
   else
   some false
  else
  some false
 ) fun v_63 =>
 some v_63
end Go.Stop
