/- Models of functions, by program (gen.py). No condition. -/
import Derived.Test.YtkefiomhjjoekaaZB7
namespace Go.Stop
open Go Go.Abs
set_option linter.unusedVariables false
structure TSegment where
  Mat : Int
  Epoch : Int
  Anchor : Int
  deriving DecidableEq, Inhabited
structure TClocks where
  Segments : List TSegment
  Far : List (List Int)
  deriving DecidableEq, Inhabited
structure TPair where
  A : Int
  B : Int
  deriving DecidableEq, Inhabited
structure TOutcome where
  Out : Bool
  Seg : Int
  Lo : Int
  Hi : Int
  deriving DecidableEq, Inhabited
structure TRunner where
  Bib : Int
  Keys : List Int
  Worlds : List (List TOutcome)
  deriving DecidableEq, Inhabited
structure TField where
  Clocks : TClocks
  Pairs : List TPair
  Runners : List TRunner
  deriving DecidableEq, Inhabited
structure TChoice where
  Outcome : Int
  X : Int
  deriving DecidableEq, Inhabited
structure THistory where
  World : Int
  Offsets : List Int
  Choices : List TChoice
  deriving DecidableEq, Inhabited
structure Thistory_view where
  f : TField
  h : THistory
  deriving DecidableEq, Inhabited
structure Thistory_pair_int_int where
  first : Int
  second : Int
  deriving DecidableEq, Inhabited
structure Tclocks_place where
  mat : Int
  epoch : Int
  deriving DecidableEq, Inhabited
def eTSegment (x : TSegment) : D := .ag [(.i .i64 x.Mat), (.i .i64 x.Epoch), (.i .i64 x.Anchor)]
def eTClocks (x : TClocks) : D := .ag [(.ls (List.map eTSegment x.Segments)), (.ls (List.map (eL eI) x.Far))]
def eTPair (x : TPair) : D := .ag [(.i .i64 x.A), (.i .i64 x.B)]
def eTOutcome (x : TOutcome) : D := .ag [(.b x.Out), (.i .i64 x.Seg), (.i .i64 x.Lo), (.i .i64 x.Hi)]
def eTRunner (x : TRunner) : D := .ag [(.i .i64 x.Bib), (.ls (List.map eI x.Keys)), (.ls (List.map (eL eTOutcome) x.Worlds))]
def eTField (x : TField) : D := .ag [(.ls (List.map eTSegment x.Clocks.Segments)), (.ls (List.map (eL eI) x.Clocks.Far)), (.ls (List.map eTPair x.Pairs)), (.ls (List.map eTRunner x.Runners))]
def eTChoice (x : TChoice) : D := .ag [(.i .i64 x.Outcome), (.i .i64 x.X)]
def eTHistory (x : THistory) : D := .ag [(.i .i64 x.World), (.ls (List.map eI x.Offsets)), (.ls (List.map eTChoice x.Choices))]
def eThistory_view (x : Thistory_view) : D := .ag [(.ls (List.map eTSegment x.f.Clocks.Segments)), (.ls (List.map (eL eI) x.f.Clocks.Far)), (.ls (List.map eTPair x.f.Pairs)), (.ls (List.map eTRunner x.f.Runners)), (.i .i64 x.h.World), (.ls (List.map eI x.h.Offsets)), (.ls (List.map eTChoice x.h.Choices))]
def eThistory_pair_int_int (x : Thistory_pair_int_int) : D := .ag [(.i .i64 x.first), (.i .i64 x.second)]
def eTclocks_place (x : Tclocks_place) : D := .ag [(.i .i64 x.mat), (.i .i64 x.epoch)]
def M0 (lo_1 : Int) (hi_2 : Int) : Option (TOutcome) :=
 some ({ Out := false, Seg := (-1), Lo := lo_1, Hi := hi_2 } : TOutcome)
def M1 : Option (TField) :=
 (M0 10 12).bind fun r_2 =>
 (M0 11 13).bind fun r_4 =>
 (M0 20 21).bind fun r_6 =>
 some ({ Clocks := ({ Segments := (([] : List TSegment)), Far := (([(([0] : List Int))] : List (List Int))) } : TClocks), Pairs := (([] : List TPair)), Runners := (([({ Bib := 1, Keys := (([2] : List Int)), Worlds := (([(([({ Out := true, Seg := (-1), Lo := 0, Hi := 0 } : TOutcome), r_2] : List TOutcome))] : List (List TOutcome))) } : TRunner), ({ Bib := 2, Keys := (([1] : List Int)), Worlds := (([(([({ Out := true, Seg := (-1), Lo := 0, Hi := 0 } : TOutcome), r_4, r_6] : List TOutcome))] : List (List TOutcome))) } : TRunner)] : List TRunner)) } : TField)
def M2 (n_1 : Int) : Option (Bool) :=
 bif decide (n_1 ≥ (-1099511627776)) then some (decide (n_1 ≤ 1099511627776)) else
 some false
def M3 (x_1 : Int) : Option (Bool) :=
 some (x_1 != x_1)
def M4 (x_1 : Int) (y_2 : Int) : Option (Int) :=
 (M3 x_1).bind fun r_4 =>
 (M3 y_2).bind fun r_6 =>
 bif r_4 then
  bif r_6 then some 0 else
  some (-1)
 else
 bif r_6 then some 1 else
 bif decide (x_1 < y_2) then some (-1) else
 bif decide (x_1 > y_2) then some 1 else
 some 0
def M5 (vals_1 : List Int) (k_7 : Unit → Option (Int)) : Nat → Int → Option (Int)
  | 0, _ => none
  | n_5 + 1, v_4 =>
    bif decide (v_4 < (((vals_1).length : Int))) then
     (idx vals_1 v_4).bind fun x_9 =>
     bif x_9 != 0 then some x_9 else
     (M5 vals_1 k_7 n_5) ((w64 (v_4 + 1)))
    else
    k_7 ()
def M6 (_ : Unit) : Option (Int) :=
 some 0
def M7 (vals_1 : List Int) : Option (Int) :=
 M5 vals_1 M6 (((((vals_1).length : Int)) - 0 : Int).toNat + 1) 0
def M8 (p_1 : Tclocks_place) (q_2 : Tclocks_place) : Option (Int) :=
 (M4 p_1.mat q_2.mat).bind fun r_4 =>
 (M4 p_1.epoch q_2.epoch).bind fun r_6 =>
 (M7 ((([r_4, r_6] : List Int)))).bind fun r_8 =>
 some r_8
def M9 (a_1 : TSegment) (b_2 : TSegment) : Option (Int) :=
 (M8 ({ mat := a_1.Mat, epoch := a_1.Epoch } : Tclocks_place) ({ mat := b_2.Mat, epoch := b_2.Epoch } : Tclocks_place)).bind fun r_4 =>
 some r_4
def M10 (w_1 : Int) : Option (Bool) :=
 bif decide (w_1 < (-2199023255552)) then some true else
 some (decide (w_1 > 2199023255552))
def M11 (s_1 : List Int) (k_7 : Unit → Option (Int)) : Nat → Int → Option (Int)
  | 0, _ => none
  | n_5 + 1, v_4 =>
    bif decide (v_4 < (((s_1).length : Int))) then
     (idx s_1 v_4).bind fun x_9 =>
     (M10 x_9).bind fun r_10 =>
     bif r_10 then some v_4 else
     (M11 s_1 k_7 n_5) ((w64 (v_4 + 1)))
    else
    k_7 ()
def M12 (_ : Unit) : Option (Int) :=
 some (-1)
def M13 (s_1 : List Int) : Option (Int) :=
 M11 s_1 M12 (((((s_1).length : Int)) - 0 : Int).toNat + 1) 0
def M14 (s_1 : List Int) : Option (Bool) :=
 (M13 s_1).bind fun r_3 =>
 some (decide (r_3 ≥ 0))
def M15 (k_1 : TClocks) (k_9 : Unit → Option (Int)) : Nat → Int → Option (Int)
  | 0, _ => none
  | n_7 + 1, v_6 =>
    bif decide (v_6 < (((k_1.Segments).length : Int))) then
     (idx k_1.Segments v_6).bind fun x_11 =>
     Option.bind (
      bif decide (x_11.Mat < 0) then some true else
      bif decide (x_11.Mat ≥ 40) then some true else
      bif decide (x_11.Epoch < 0) then some true else
      bif decide (x_11.Epoch > 255) then some true else
      (M2 x_11.Anchor).bind fun r_18 =>
      bif !r_18 then some true else
      bif decide (v_6 > 0) then
       (idx k_1.Segments (w64 (v_6 - 1))).bind fun x_22 =>
       (M9 x_22 x_11).bind fun r_23 =>
       some (decide (r_23 ≥ 0))
      else
      some false
     ) fun v_12 =>
     bif v_12 then some 160 else
     (M15 k_1 k_9 n_7) ((w64 (v_6 + 1)))
    else
    k_9 ()
def M16 (k_1 : TClocks) (k_30 : Unit → Option (Int)) : Nat → Int → Option (Int)
  | 0, _ => none
  | n_28 + 1, v_27 =>
    bif decide (v_27 < (((k_1.Far).length : Int))) then
     (idx k_1.Far v_27).bind fun x_32 =>
     bif (((x_32).length : Int)) != (w64 ((((k_1.Segments).length : Int)) + 1)) then some 160 else
     (idx x_32 v_27).bind fun x_34 =>
     bif x_34 != 0 then some 160 else
     (M14 x_32).bind fun r_36 =>
     bif r_36 then some 160 else
     (M16 k_1 k_30 n_28) ((w64 (v_27 + 1)))
    else
    k_30 ()
def M17 (k_1 : TClocks) (v_40 : Int) (x_52 : Int) (x_53 : List Int) (k_58 : Unit → Option (Int)) : Nat → Int → Option (Int)
  | 0, _ => none
  | n_56 + 1, v_55 =>
    bif decide (v_55 < (((x_53).length : Int))) then
     (idx x_53 v_55).bind fun x_60 =>
     (idx k_1.Far v_40).bind fun x_61 =>
     (idx x_61 v_55).bind fun x_62 =>
     bif decide (x_62 > (w64 (x_52 + x_60))) then some 160 else
     (M17 k_1 v_40 x_52 x_53 k_58 n_56) ((w64 (v_55 + 1)))
    else
    k_58 ()
def M18 (v_47 : Int) (nx_49 : Int → Option (Int)) (_ : Unit) : Option (Int) :=
 nx_49 ((w64 (v_47 + 1)))
def M19 (k_1 : TClocks) (v_40 : Int) (x_45 : List Int) (k_50 : Unit → Option (Int)) : Nat → Int → Option (Int)
  | 0, _ => none
  | n_48 + 1, v_47 =>
    bif decide (v_47 < (((x_45).length : Int))) then
     (idx x_45 v_47).bind fun x_52 =>
     (idx k_1.Far v_47).bind fun x_53 =>
     M17 k_1 v_40 x_52 x_53 (M18 v_47 (M19 k_1 v_40 x_45 k_50 n_48)) (((((x_53).length : Int)) - 0 : Int).toNat + 1) 0
    else
    k_50 ()
def M20 (v_40 : Int) (nx_42 : Int → Option (Int)) (_ : Unit) : Option (Int) :=
 nx_42 ((w64 (v_40 + 1)))
def M21 (k_1 : TClocks) (k_43 : Unit → Option (Int)) : Nat → Int → Option (Int)
  | 0, _ => none
  | n_41 + 1, v_40 =>
    bif decide (v_40 < (w64 ((((k_1.Segments).length : Int)) + 1))) then
     (idx k_1.Far v_40).bind fun x_45 =>
     M19 k_1 v_40 x_45 (M20 v_40 (M21 k_1 k_43 n_41)) (((((x_45).length : Int)) - 0 : Int).toNat + 1) 0
    else
    k_43 ()
def M22 (_ : Unit) : Option (Int) :=
 some 0
def M23 (k_1 : TClocks) (_ : Unit) : Option (Int) :=
 M21 k_1 M22 (((w64 ((((k_1.Segments).length : Int)) + 1)) - 0 : Int).toNat + 1) 0
def M24 (k_1 : TClocks) (_ : Unit) : Option (Int) :=
 M16 k_1 (M23 k_1) (((((k_1.Far).length : Int)) - 0 : Int).toNat + 1) 0
def M25 (k_1 : TClocks) : Option (Int) :=
 bif decide ((((k_1.Segments).length : Int)) > 511) then some 160 else
 bif (((k_1.Far).length : Int)) != (w64 ((((k_1.Segments).length : Int)) + 1)) then some 160 else
 M15 k_1 (M24 k_1) (((((k_1.Segments).length : Int)) - 0 : Int).toNat + 1) 0
def M26 (slices_1 : List (List TOutcome)) : Nat → Int → Int → Option (Int)
  | 0, _, _ => none
  | n_7 + 1, size_5, v_6 =>
    bif decide (v_6 < (((slices_1).length : Int))) then
     (idx slices_1 v_6).bind fun x_12 =>
     bif decide ((w64 (size_5 + (((x_12).length : Int)))) < 0) then none else
     (M26 slices_1 n_7) ((w64 (size_5 + (((x_12).length : Int))))) ((w64 (v_6 + 1)))
    else
    some size_5
def M27 (slices_1 : List (List TOutcome)) : Nat → Int → (List TOutcome) → Option (List TOutcome)
  | 0, _, _ => none
  | n_23 + 1, v_21, l_22 =>
    bif decide (v_21 < (((slices_1).length : Int))) then
     (idx slices_1 v_21).bind fun x_28 =>
     (app 32 l_22 x_28).bind fun l_29 =>
     (M27 slices_1 n_23) ((w64 (v_21 + 1))) l_29
    else
    some l_22
def M28 (slices_1 : List (List TOutcome)) : Nat → Int → (List TOutcome) → Option (List TOutcome)
  | 0, _, _ => none
  | n_35 + 1, v_33, l_34 =>
    bif decide (v_33 < (((slices_1).length : Int))) then
     (idx slices_1 v_33).bind fun x_40 =>
     (app 32 l_34 x_40).bind fun l_41 =>
     (M28 slices_1 n_35) ((w64 (v_33 + 1))) l_41
    else
    some l_34
def M29 (slices_1 : List (List TOutcome)) : Option (List TOutcome) :=
 (M26 slices_1 (((((slices_1).length : Int)) - 0 : Int).toNat + 1) 0 0).bind fun size_8 =>
 bif decide (size_8 < 0) then none else
 bif decide ((w64 (size_8 - 0)) > 0) then
  (mkZ 32 (w64 (size_8 - 0))).bind fun n_17 =>
  (slcTo (List.replicate n_17 ({ Out := false, Seg := 0, Lo := 0, Hi := 0 } : TOutcome)) 0).bind fun l_18 =>
  (M27 slices_1 (((((slices_1).length : Int)) - 0 : Int).toNat + 1) 0 l_18).bind fun l_24 =>
  some l_24
 else
 (M28 slices_1 (((((slices_1).length : Int)) - 0 : Int).toNat + 1) 0 ((([] : List TOutcome)))).bind fun l_36 =>
 some l_36
def M30 : Option (TOutcome) :=
 some ({ Out := true, Seg := (-1), Lo := 0, Hi := 0 } : TOutcome)
def M31 (k_1 : TClocks) (x_2 : TOutcome) : Option (Int) :=
 (M25 k_1).bind fun r_4 =>
 bif r_4 != 0 then some r_4 else
 bif x_2.Out then
  (M30).bind fun r_13 =>
  bif !((x_2.Out == r_13.Out) && ((x_2.Seg == r_13.Seg) && ((x_2.Lo == r_13.Lo) && ((x_2.Hi == r_13.Hi) && true)))) then some 230 else
  some 0
 else
 bif !((decide (x_2.Seg ≥ (-1))) && ((decide (x_2.Seg < (((k_1.Segments).length : Int)))) && ((decide (x_2.Lo ≥ (-288230376151711744))) && ((decide (x_2.Lo ≤ x_2.Hi)) && (decide (x_2.Hi ≤ 288230376151711744)))))) then some 230 else
 some 0
def M32 (r_1 : TRunner) (c_2 : Int) : Option (Bool) :=
 (idx r_1.Worlds c_2).bind fun x_4 =>
 some ((((x_4).length : Int)) == 0)
def M33 (s_1 : List TRunner) (c_2 : Int) (k_8 : Unit → Option (Int)) : Nat → Int → Option (Int)
  | 0, _ => none
  | n_6 + 1, v_5 =>
    bif decide (v_5 < (((s_1).length : Int))) then
     (idx s_1 v_5).bind fun x_10 =>
     (M32 x_10 c_2).bind fun r_11 =>
     bif r_11 then some v_5 else
     (M33 s_1 c_2 k_8 n_6) ((w64 (v_5 + 1)))
    else
    k_8 ()
def M34 (_ : Unit) : Option (Int) :=
 some (-1)
def M35 (s_1 : List TRunner) (c_2 : Int) : Option (Int) :=
 M33 s_1 c_2 M34 (((((s_1).length : Int)) - 0 : Int).toNat + 1) 0
def M36 (s_1 : List TRunner) (c_2 : Int) : Option (Bool) :=
 (M35 s_1 c_2).bind fun r_4 =>
 some (decide (r_4 ≥ 0))
def M37 (f_1 : TField) (k_7 : Unit → Option (Bool)) : Nat → Int → Option (Bool)
  | 0, _ => none
  | n_5 + 1, v_4 =>
    bif decide (v_4 < (w64 ((((f_1.Pairs).length : Int)) + 1))) then
     (M36 f_1.Runners v_4).bind fun r_9 =>
     bif !r_9 then some true else
     (M37 f_1 k_7 n_5) ((w64 (v_4 + 1)))
    else
    k_7 ()
def M38 (_ : Unit) : Option (Bool) :=
 some false
def M39 (f_1 : TField) : Option (Bool) :=
 M37 f_1 M38 (((w64 ((((f_1.Pairs).length : Int)) + 1)) - 0 : Int).toNat + 1) 0
def M40 (f_1 : TField) (k_19 : Unit → Option (Int)) : Nat → Int → Int → Int → Option (Int)
  | 0, _, _, _ => none
  | n_17 + 1, v_14, v_15, v_16 =>
    bif decide (v_14 < (((f_1.Pairs).length : Int))) then
     (idx f_1.Pairs v_14).bind fun x_21 =>
     bif (decide (x_21.A < 1)) || ((decide (x_21.A ≥ x_21.B)) || ((decide (x_21.B > 9999)) || ((decide (x_21.A < v_15)) || ((x_21.A == v_15) && (decide (x_21.B ≤ v_16)))))) then some 240 else
     (M40 f_1 k_19 n_17) ((w64 (v_14 + 1))) x_21.A x_21.B
    else
    k_19 ()
def M41 (f_1 : TField) (r_45 : List TOutcome) (k_51 : Unit → Option (Int)) : Nat → Int → Option (Int)
  | 0, _ => none
  | n_49 + 1, v_48 =>
    bif decide (v_48 < (((r_45).length : Int))) then
     (idx r_45 v_48).bind fun x_53 =>
     (M31 f_1.Clocks x_53).bind fun r_54 =>
     bif r_54 != 0 then some 240 else
     (M41 f_1 r_45 k_51 n_49) ((w64 (v_48 + 1)))
    else
    k_51 ()
def M42 (v_32 : Int) (nx_34 : Int → Int → Option (Int)) (x_37 : TRunner) (_ : Unit) : Option (Int) :=
 nx_34 x_37.Bib ((w64 (v_32 + 1)))
def M43 (f_1 : TField) (k_35 : Unit → Option (Int)) : Nat → Int → Int → Option (Int)
  | 0, _, _ => none
  | n_33 + 1, bib_31, v_32 =>
    bif decide (v_32 < (((f_1.Runners).length : Int))) then
     (idx f_1.Runners v_32).bind fun x_37 =>
     Option.bind (
      bif decide (x_37.Bib ≤ bib_31) then some true else
      bif decide (x_37.Bib > 9999) then some true else
      (idx f_1.Runners 0).bind fun x_42 =>
      bif (((x_37.Keys).length : Int)) != (((x_42.Keys).length : Int)) then some true else
      some ((((x_37.Worlds).length : Int)) != (w64 ((((f_1.Pairs).length : Int)) + 1)))
     ) fun v_38 =>
     bif v_38 then some 240 else
     (M29 x_37.Worlds).bind fun r_45 =>
     M41 f_1 r_45 (M42 v_32 (M43 f_1 k_35 n_33) x_37) (((((r_45).length : Int)) - 0 : Int).toNat + 1) 0
    else
    k_35 ()
def M44 (f_1 : TField) (_ : Unit) : Option (Int) :=
 (M39 f_1).bind fun r_57 =>
 bif !r_57 then some 240 else
 some 0
def M45 (f_1 : TField) (_ : Unit) : Option (Int) :=
 M43 f_1 (M44 f_1) (((((f_1.Runners).length : Int)) - 0 : Int).toNat + 1) 0 0
def M46 (f_1 : TField) : Option (Int) :=
 Option.bind (
  (M25 f_1.Clocks).bind fun r_5 =>
  bif r_5 != 0 then some true else
  bif decide ((((f_1.Pairs).length : Int)) > 16) then some true else
  bif decide ((((f_1.Runners).length : Int)) < 1) then some true else
  some (decide ((((f_1.Runners).length : Int)) > 4000))
 ) fun v_3 =>
 bif v_3 then some 240 else
 M40 f_1 (M45 f_1) (((((f_1.Pairs).length : Int)) - 0 : Int).toNat + 1) 0 0 0
def M47 (r_1 : TRunner) (c_2 : Int) : Option (Bool) :=
 (idx r_1.Worlds c_2).bind fun x_4 =>
 some ((((x_4).length : Int)) == 0)
def M48 (s_1 : List TRunner) (c_2 : Int) (k_8 : Unit → Option (Int)) : Nat → Int → Option (Int)
  | 0, _ => none
  | n_6 + 1, v_5 =>
    bif decide (v_5 < (((s_1).length : Int))) then
     (idx s_1 v_5).bind fun x_10 =>
     (M47 x_10 c_2).bind fun r_11 =>
     bif r_11 then some v_5 else
     (M48 s_1 c_2 k_8 n_6) ((w64 (v_5 + 1)))
    else
    k_8 ()
def M49 (_ : Unit) : Option (Int) :=
 some (-1)
def M50 (s_1 : List TRunner) (c_2 : Int) : Option (Int) :=
 M48 s_1 c_2 M49 (((((s_1).length : Int)) - 0 : Int).toNat + 1) 0
def M51 (s_1 : List TRunner) (c_2 : Int) : Option (Bool) :=
 (M50 s_1 c_2).bind fun r_4 =>
 some (decide (r_4 ≥ 0))
def M52 (f_1 : TField) (world_2 : Int) : Option (Bool) :=
 (M51 f_1.Runners world_2).bind fun r_4 =>
 some (!r_4)
def M53 (n_1 : Int) : Option (Bool) :=
 bif decide (n_1 < (-2199023255552)) then some true else
 some (decide (n_1 > 2199023255552))
def M54 (s_1 : List Int) (k_7 : Unit → Option (Int)) : Nat → Int → Option (Int)
  | 0, _ => none
  | n_5 + 1, v_4 =>
    bif decide (v_4 < (((s_1).length : Int))) then
     (idx s_1 v_4).bind fun x_9 =>
     (M53 x_9).bind fun r_10 =>
     bif r_10 then some v_4 else
     (M54 s_1 k_7 n_5) ((w64 (v_4 + 1)))
    else
    k_7 ()
def M55 (_ : Unit) : Option (Int) :=
 some (-1)
def M56 (s_1 : List Int) : Option (Int) :=
 M54 s_1 M55 (((((s_1).length : Int)) - 0 : Int).toNat + 1) 0
def M57 (s_1 : List Int) : Option (Bool) :=
 (M56 s_1).bind fun r_3 =>
 some (decide (r_3 ≥ 0))
def M58 (l_4 : List Int) (v_9 : Int) (x_14 : List Int) (k_19 : Unit → Option (Bool)) : Nat → Int → Option (Bool)
  | 0, _ => none
  | n_17 + 1, v_16 =>
    bif decide (v_16 < (((x_14).length : Int))) then
     (idx x_14 v_16).bind fun x_21 =>
     (idx l_4 v_16).bind fun x_22 =>
     (idx l_4 v_9).bind fun x_23 =>
     bif decide ((w64 (x_22 - x_23)) > x_21) then some false else
     (M58 l_4 v_9 x_14 k_19 n_17) ((w64 (v_16 + 1)))
    else
    k_19 ()
def M59 (v_9 : Int) (nx_11 : Int → Option (Bool)) (_ : Unit) : Option (Bool) :=
 nx_11 ((w64 (v_9 + 1)))
def M60 (k_1 : TClocks) (l_4 : List Int) (k_12 : Unit → Option (Bool)) : Nat → Int → Option (Bool)
  | 0, _ => none
  | n_10 + 1, v_9 =>
    bif decide (v_9 < (((k_1.Far).length : Int))) then
     (idx k_1.Far v_9).bind fun x_14 =>
     M58 l_4 v_9 x_14 (M59 v_9 (M60 k_1 l_4 k_12 n_10)) (((((x_14).length : Int)) - 0 : Int).toNat + 1) 0
    else
    k_12 ()
def M61 (_ : Unit) : Option (Bool) :=
 some true
def M62 (k_1 : TClocks) (offsets_2 : List Int) : Option (Bool) :=
 (app 8 (([0] : List Int)) offsets_2).bind fun l_4 =>
 (M57 l_4).bind fun r_5 =>
 bif r_5 then some false else
 M60 k_1 l_4 M61 (((((k_1.Far).length : Int)) - 0 : Int).toNat + 1) 0
def M63 (v_1 : Thistory_view) (runner_2 : Int) : Option (List TOutcome) :=
 (idx v_1.f.Runners runner_2).bind fun x_4 =>
 (idx x_4.Worlds v_1.h.World).bind fun x_5 =>
 some x_5
def M64 (v_1 : Thistory_view) (runner_2 : Int) : Option (TOutcome) :=
 (M63 v_1 runner_2).bind fun r_4 =>
 (idx v_1.h.Choices runner_2).bind fun x_6 =>
 (idx r_4 x_6.Outcome).bind fun x_7 =>
 some x_7
def M65 (f_1 : TField) (h_2 : THistory) (k_24 : Unit → Option (Thistory_view × Int)) : Nat → Int → Option (Thistory_view × Int)
  | 0, _ => none
  | n_22 + 1, v_21 =>
    bif decide (v_21 < (((h_2.Choices).length : Int))) then
     (idx h_2.Choices v_21).bind fun x_26 =>
     bif decide (x_26.Outcome < 0) then some (({ f := f_1, h := h_2 } : Thistory_view), 260) else
     (M63 ({ f := f_1, h := h_2 } : Thistory_view) v_21).bind fun r_28 =>
     bif decide (x_26.Outcome ≥ (((r_28).length : Int))) then some (({ f := f_1, h := h_2 } : Thistory_view), 260) else
     (M64 ({ f := f_1, h := h_2 } : Thistory_view) v_21).bind fun r_31 =>
     bif r_31.Out then
      bif decide (x_26.X < 0) then some (({ f := f_1, h := h_2 } : Thistory_view), 260) else
      bif decide (x_26.X > 0) then some (({ f := f_1, h := h_2 } : Thistory_view), 260) else
      (M65 f_1 h_2 k_24 n_22) ((w64 (v_21 + 1)))
     else
     bif decide (x_26.X < r_31.Lo) then some (({ f := f_1, h := h_2 } : Thistory_view), 260) else
     bif decide (x_26.X > r_31.Hi) then some (({ f := f_1, h := h_2 } : Thistory_view), 260) else
     (M65 f_1 h_2 k_24 n_22) ((w64 (v_21 + 1)))
    else
    k_24 ()
def M66 (f_1 : TField) (h_2 : THistory) (_ : Unit) : Option (Thistory_view × Int) :=
 some (({ f := f_1, h := h_2 } : Thistory_view), 0)
def M67 (f_1 : TField) (h_2 : THistory) : Option (Thistory_view × Int) :=
 (M46 f_1).bind fun r_5 =>
 bif r_5 != 0 then some (({ f := ({ Clocks := ({ Segments := (([] : List TSegment)), Far := (([] : List (List Int))) } : TClocks), Pairs := (([] : List TPair)), Runners := (([] : List TRunner)) } : TField), h := ({ World := 0, Offsets := (([] : List Int)), Choices := (([] : List TChoice)) } : THistory) } : Thistory_view), 240) else
 Option.bind (
  bif decide (h_2.World < 0) then some true else
  bif decide (h_2.World > (((f_1.Pairs).length : Int))) then some true else
  (M52 f_1 h_2.World).bind fun r_12 =>
  bif !r_12 then some true else
  bif (((h_2.Offsets).length : Int)) != (((f_1.Clocks.Segments).length : Int)) then some true else
  bif (((h_2.Choices).length : Int)) != (((f_1.Runners).length : Int)) then some true else
  (M62 f_1.Clocks h_2.Offsets).bind fun r_17 =>
  some (!r_17)
 ) fun v_8 =>
 bif v_8 then some (({ f := f_1, h := h_2 } : Thistory_view), 260) else
 M65 f_1 h_2 (M66 f_1 h_2) (((((h_2.Choices).length : Int)) - 0 : Int).toNat + 1) 0
def M68 (f_1 : TField) (h_2 : THistory) (runner_3 : Int) : Option (Thistory_view × Int) :=
 (M67 f_1 h_2).bind fun (r_6, r_7) =>
 bif r_7 == 0 then
  bif decide (runner_3 < 0) then some (r_6, 250) else
  bif decide (runner_3 ≥ (((f_1.Runners).length : Int))) then some (r_6, 250) else
  some (r_6, r_7)
 else
 some (r_6, r_7)
def M69 (v_1 : Thistory_view) (runner_2 : Int) : Option (Int × Bool) :=
 (M64 v_1 runner_2).bind fun r_5 =>
 bif r_5.Out then some (0, false) else
 (idx v_1.h.Choices runner_2).bind fun x_8 =>
 bif decide (r_5.Seg ≥ 0) then
  (idx v_1.h.Offsets r_5.Seg).bind fun x_10 =>
  some ((w64 (x_8.X + x_10)), true)
 else
 some (x_8.X, true)
def M70 (v_1 : Thistory_view) : Nat → Int → (List Thistory_pair_int_int) → Option (List Thistory_pair_int_int)
  | 0, _, _ => none
  | n_7 + 1, v_5, l_6 =>
    bif decide (v_5 < (((v_1.f.Runners).length : Int))) then
     (M69 v_1 v_5).bind fun (r_12, r_13) =>
     bif r_13 then
      (app 16 l_6 (([({ first := v_5, second := r_12 } : Thistory_pair_int_int)] : List Thistory_pair_int_int))).bind fun l_16 =>
      (M70 v_1 n_7) ((w64 (v_5 + 1))) l_16
     else
     (M70 v_1 n_7) ((w64 (v_5 + 1))) l_6
    else
    some l_6
def M71 (v_1 : Thistory_view) : Option (List Thistory_pair_int_int) :=
 (M70 v_1 (((((v_1.f.Runners).length : Int)) - 0 : Int).toNat + 1) 0 ((([] : List Thistory_pair_int_int)))).bind fun l_8 =>
 some l_8
def M72 (s_1 : List Int) (s_2 : List Int) (k_8 : Unit → Option (Int)) : Nat → Int → Option (Int)
  | 0, _ => none
  | n_6 + 1, v_5 =>
    bif decide (v_5 < (((s_1).length : Int))) then
     (idx s_1 v_5).bind fun x_10 =>
     bif decide (v_5 ≥ (((s_2).length : Int))) then some 1 else
     (idx s_2 v_5).bind fun x_12 =>
     (M4 x_10 x_12).bind fun r_13 =>
     bif r_13 != 0 then some r_13 else
     (M72 s_1 s_2 k_8 n_6) ((w64 (v_5 + 1)))
    else
    k_8 ()
def M73 (s_1 : List Int) (s_2 : List Int) (_ : Unit) : Option (Int) :=
 bif decide ((((s_1).length : Int)) < (((s_2).length : Int))) then some (-1) else
 some 0
def M74 (s_1 : List Int) (s_2 : List Int) : Option (Int) :=
 M72 s_1 s_2 (M73 s_1 s_2) (((((s_1).length : Int)) - 0 : Int).toNat + 1) 0
def M75 (v_1 : Thistory_view) (a_2 : Thistory_pair_int_int) (b_3 : Thistory_pair_int_int) : Option (Int) :=
 (M4 a_2.second b_3.second).bind fun r_5 =>
 (idx v_1.f.Runners a_2.first).bind fun x_7 =>
 (idx v_1.f.Runners b_3.first).bind fun x_8 =>
 (M74 x_7.Keys x_8.Keys).bind fun r_9 =>
 (M7 ((([r_5, r_9] : List Int)))).bind fun r_11 =>
 some r_11
def M76 (runner_3 : Int) (r_6 : Thistory_view) (r_10 : Int) (r_14 : List Thistory_pair_int_int) : Nat → Int → Int → Option (Int)
  | 0, _, _ => none
  | n_20 + 1, n_18, v_19 =>
    bif decide (v_19 < (((r_14).length : Int))) then
     (idx r_14 v_19).bind fun x_25 =>
     (M75 r_6 x_25 ({ first := runner_3, second := r_10 } : Thistory_pair_int_int)).bind fun r_26 =>
     bif decide (r_26 < 0) then (M76 runner_3 r_6 r_10 r_14 n_20) ((w64 (n_18 + 1))) ((w64 (v_19 + 1))) else
     (M76 runner_3 r_6 r_10 r_14 n_20) n_18 ((w64 (v_19 + 1)))
    else
    some n_18
def M77 (f_1 : TField) (h_2 : THistory) (runner_3 : Int) : Option (Int × Int) :=
 (M68 f_1 h_2 runner_3).bind fun (r_6, r_7) =>
 bif r_7 != 0 then some (0, r_7) else
 (M69 r_6 runner_3).bind fun (r_10, r_11) =>
 bif !r_11 then some (0, 0) else
 (M71 r_6).bind fun r_14 =>
 (M76 runner_3 r_6 r_10 r_14 (((((r_14).length : Int)) - 0 : Int).toNat + 1) 0 0).bind fun n_21 =>
 some ((w64 (n_21 + 1)), 0)
def M78 (a_1 : Int) (c_3 : Thistory_view) : Nat → Int → (List Thistory_pair_int_int) → Option (List Thistory_pair_int_int)
  | 0, _, _ => none
  | n_19 + 1, j_17, l_18 =>
    bif decide (j_17 > a_1) then
     (idx l_18 j_17).bind fun x_24 =>
     (idx l_18 (w64 (j_17 - 1))).bind fun x_25 =>
     (M75 c_3 x_24 x_25).bind fun r_26 =>
     bif decide (r_26 < 0) then
      (idx l_18 (w64 (j_17 - 1))).bind fun x_29 =>
      (idx l_18 j_17).bind fun x_30 =>
      (idx l_18 j_17).bind fun x_31 =>
      (idx (List.set l_18 (Int.toNat j_17) x_29) (w64 (j_17 - 1))).bind fun x_32 =>
      (M78 a_1 c_3 n_19) ((w64 (j_17 - 1))) ((List.set (List.set l_18 (Int.toNat j_17) x_29) (Int.toNat (w64 (j_17 - 1))) x_30))
     else
     some l_18
    else
    some l_18
def M79 (a_1 : Int) (b_2 : Int) (c_3 : Thistory_view) : Nat → Int → (List Thistory_pair_int_int) → Option (List Thistory_pair_int_int)
  | 0, _, _ => none
  | n_10 + 1, i_8, l_9 =>
    bif decide (i_8 < b_2) then
     (M78 a_1 c_3 ((i_8 - a_1 : Int).toNat + 1) i_8 l_9).bind fun l_20 =>
     (M79 a_1 b_2 c_3 n_10) ((w64 (i_8 + 1))) l_20
    else
    some l_9
def M80 (a_1 : Int) (b_2 : Int) (c_3 : Thistory_view) (l_4 : List Thistory_pair_int_int) : Option (List Thistory_pair_int_int) :=
 (M79 a_1 b_2 c_3 ((b_2 - (w64 (a_1 + 1)) : Int).toNat + 1) ((w64 (a_1 + 1))) l_4).bind fun l_11 =>
 some l_11
def M81 (n_1 : Int) (c_2 : Thistory_view) : Nat → Int → Int → (List Thistory_pair_int_int) → Option (Int × List Thistory_pair_int_int)
  | 0, _, _, _ => none
  | n_11 + 1, a_8, b_9, l_10 =>
    bif decide (b_9 ≤ n_1) then
     (M80 a_8 b_9 c_2 l_10).bind fun l_17 =>
     (lenIs l_17 l_10).bind fun _ =>
     (M81 n_1 c_2 n_11) b_9 ((w64 (b_9 + 20))) l_17
    else
    some (a_8, l_10)
def M82 (n_1 : Int) : Nat → Option (Unit)
  | 0 => none
  | n_28 + 1 =>
    bif decide (40 ≤ n_1) then none else
    some ()
def M83 (n_1 : Int) : Nat → Option (Unit)
  | 0 => none
  | n_24 + 1 =>
    bif decide (20 < n_1) then
     (M82 n_1 ((n_1 + 1 - 40 : Int).toNat + 1)).bind fun _ =>
     none
    else
    some ()
def M84 (n_1 : Int) (c_2 : Thistory_view) (l_3 : List Thistory_pair_int_int) : Option (List Thistory_pair_int_int) :=
 (M81 n_1 c_2 ((n_1 + 1 - 20 : Int).toNat + 1) 0 20 l_3).bind fun (a_12, l_13) =>
 (M80 a_12 n_1 c_2 l_13).bind fun l_21 =>
 (lenIs l_21 l_13).bind fun _ =>
 (M83 n_1 ((n_1 - 20 : Int).toNat + 1)).bind fun _ =>
 some l_21
def M85 (c_1 : Thistory_view) (l_2 : List Thistory_pair_int_int) : Option (List Thistory_pair_int_int) :=
 (M84 ((((l_2).length : Int))) c_1 l_2).bind fun l_4 =>
 (lenIs l_4 l_2).bind fun _ =>
 some l_4
def M86 (r_5 : Thistory_view) : Nat → Int → (List Thistory_pair_int_int) → Option (List Thistory_pair_int_int)
  | 0, _, _ => none
  | n_13 + 1, v_11, l_12 =>
    bif decide (v_11 < (((r_5.f.Runners).length : Int))) then
     (M69 r_5 v_11).bind fun (r_18, r_19) =>
     bif r_19 then
      (app 16 l_12 (([({ first := v_11, second := r_18 } : Thistory_pair_int_int)] : List Thistory_pair_int_int))).bind fun l_22 =>
      (M86 r_5 n_13) ((w64 (v_11 + 1))) l_22
     else
     (M86 r_5 n_13) ((w64 (v_11 + 1))) l_12
    else
    some l_12
def M87 (l_24 : List Thistory_pair_int_int) : Nat → Int → (List Int) → Option (List Int)
  | 0, _, _ => none
  | n_31 + 1, v_29, l_30 =>
    bif decide (v_29 < (((l_24).length : Int))) then
     (idx l_24 v_29).bind fun x_36 =>
     (app 8 l_30 (([x_36.first] : List Int))).bind fun l_37 =>
     (M87 l_24 n_31) ((w64 (v_29 + 1))) l_37
    else
    some l_30
def M88 (f_1 : TField) (h_2 : THistory) : Option (List Int × Int) :=
 (M67 f_1 h_2).bind fun (r_5, r_6) =>
 bif r_6 != 0 then some ((([] : List Int)), r_6) else
 (M86 r_5 (((((r_5.f.Runners).length : Int)) - 0 : Int).toNat + 1) 0 ((([] : List Thistory_pair_int_int)))).bind fun l_14 =>
 (M85 r_5 l_14).bind fun l_24 =>
 (lenIs l_24 l_14).bind fun _ =>
 (M87 l_24 (((((l_24).length : Int)) - 0 : Int).toNat + 1) 0 ((([] : List Int)))).bind fun l_32 =>
 some (l_32, 0)
def M89 (f_1 : TField) (most_2 : Int) (v_13 : Int) : Nat → Int → Int → Option (Int)
  | 0, _, _ => none
  | n_23 + 1, many_21, v_22 =>
    bif decide (v_22 < (((f_1.Runners).length : Int))) then
     (idx f_1.Runners v_22).bind fun x_28 =>
     (idx x_28.Worlds v_13).bind fun x_29 =>
     (M89 f_1 most_2 v_13 n_23) ((minG (w64 (many_21 * (((x_29).length : Int)))) (w64 (most_2 + 1)))) ((w64 (v_22 + 1)))
    else
    some many_21
def M90 (f_1 : TField) (most_2 : Int) : Nat → Int → Int → Option (Int)
  | 0, _, _ => none
  | n_14 + 1, n_12, v_13 =>
    bif decide (v_13 < (w64 ((((f_1.Pairs).length : Int)) + 1))) then
     (M89 f_1 most_2 v_13 (((((f_1.Runners).length : Int)) - 0 : Int).toNat + 1) 1 0).bind fun many_24 =>
     (M90 f_1 most_2 n_14) ((minG (w64 (n_12 + many_24)) most_2)) ((w64 (v_13 + 1)))
    else
    some n_12
def M91 (f_1 : TField) (most_2 : Int) : Option (Int × Int) :=
 (M46 f_1).bind fun r_5 =>
 bif r_5 != 0 then some (0, 240) else
 bif decide (most_2 < 0) then some (0, 1) else
 bif decide (most_2 > 1073741824) then some (0, 1) else
 (M90 f_1 most_2 (((w64 ((((f_1.Pairs).length : Int)) + 1)) - 0 : Int).toNat + 1) 0 0).bind fun n_15 =>
 some (n_15, 0)
def M92 (f_1 : TField) (h_2 : THistory) : Option (Int) :=
 (M67 f_1 h_2).bind fun (r_4, r_5) =>
 some r_5
def M93 : Option (Bool) :=
 (M1).bind fun r_2 =>
 (mkN 16 2).bind fun n_4 =>
 (M77 r_2 (({ World := 0, Offsets := (([] : List Int)), Choices := (([({ Outcome := 1, X := 12 } : TChoice), ({ Outcome := 1, X := 12 } : TChoice)] : List TChoice)) } : THistory)) 0).bind fun (r_5, r_6) =>
 (M77 r_2 (({ World := 0, Offsets := (([] : List Int)), Choices := (([({ Outcome := 1, X := 12 } : TChoice), ({ Outcome := 1, X := 12 } : TChoice)] : List TChoice)) } : THistory)) 1).bind fun (r_8, r_9) =>
 (M88 r_2 (({ World := 0, Offsets := (([] : List Int)), Choices := (List.replicate n_4 ({ Outcome := 0, X := 0 } : TChoice)) } : THistory))).bind fun (r_11, r_12) =>
 (M91 r_2 100).bind fun (r_14, r_15) =>
 (M91 r_2 0).bind fun (r_17, r_18) =>
 (M91 r_2 (-1)).bind fun (r_20, r_21) =>
 (M77 r_2 (({ World := 0, Offsets := (([] : List Int)), Choices := (([({ Outcome := 1, X := 12 } : TChoice), ({ Outcome := 1, X := 12 } : TChoice)] : List TChoice)) } : THistory)) (-1)).bind fun (r_23, r_24) =>
 bif (r_6 != 0) || ((r_9 != 0) || ((r_12 != 0) || ((r_15 != 0) || ((r_18 != 0) || ((r_21 != 1) || (r_24 != 250)))))) then some false else
 Option.bind (
  bif r_5 == 2 then
   bif r_8 == 1 then
    bif (((r_11).length : Int)) == 0 then
     bif r_14 == 6 then
      bif r_17 == 0 then
       (M92 r_2 (({ World := 0, Offsets := (([] : List Int)), Choices := (([({ Outcome := 1, X := 12 } : TChoice), ({ Outcome := 1, X := 12 } : TChoice)] : List TChoice)) } : THistory))).bind fun r_41 =>
       bif r_41 == 0 then
        (M92 r_2 (({ World := 0, Offsets := (([] : List Int)), Choices := (([] : List TChoice)) } : THistory))).bind fun r_44 =>
        bif r_44 == 260 then
         (M92 (({ Clocks := ({ Segments := (([] : List TSegment)), Far := (([] : List (List Int))) } : TClocks), Pairs := (([] : List TPair)), Runners := (([] : List TRunner)) } : TField)) (({ World := 0, Offsets := (([] : List Int)), Choices := (([] : List TChoice)) } : THistory))).bind fun r_47 =>
         some (r_47 == 240)
        else
        some false
       else
       some false
      else
      some false
     else
     some false
    else
    some false
   else
   some false
  else
  some false
 ) fun v_34 =>
 some v_34
def M94 (k_1 : TClocks) (k_9 : Unit → Option (Bool)) : Nat → Int → Option (Bool)
  | 0, _ => none
  | n_7 + 1, i_6 =>
    bif decide (i_6 < (((k_1.Far).length : Int))) then
     (idx k_1.Far i_6).bind fun x_11 =>
     bif decide ((((x_11).length : Int)) > 12) then some false else
     (M94 k_1 k_9 n_7) ((w64 (i_6 + 1)))
    else
    k_9 ()
def M95 (_ : Unit) : Option (Bool) :=
 some true
def M96 (k_1 : TClocks) : Option (Bool) :=
 bif decide ((((k_1.Segments).length : Int)) > 8) then some false else
 bif decide ((((k_1.Far).length : Int)) > 10) then some false else
 M94 k_1 M95 (((((k_1.Far).length : Int)) - 0 : Int).toNat + 1) 0
def M97 (x_17 : TRunner) : Nat → Int → Int → Option (Int)
  | 0, _, _ => none
  | n_24 + 1, n_22, w_23 =>
    bif decide (w_23 < (((x_17.Worlds).length : Int))) then
     (idx x_17.Worlds w_23).bind fun x_29 =>
     (M97 x_17 n_24) ((w64 (n_22 + (((x_29).length : Int))))) ((w64 (w_23 + 1)))
    else
    some n_22
def M98 (f_1 : TField) (k_15 : Int → Option (Bool)) : Nat → Int → Int → Option (Bool)
  | 0, _, _ => none
  | n_12 + 1, n_10, i_11 =>
    bif decide (i_11 < (((f_1.Runners).length : Int))) then
     (idx f_1.Runners i_11).bind fun x_17 =>
     bif decide ((((x_17.Keys).length : Int)) > 8) then some false else
     bif decide ((((x_17.Worlds).length : Int)) > 5) then some false else
     (M97 x_17 (((((x_17.Worlds).length : Int)) - 0 : Int).toNat + 1) n_10 0).bind fun n_25 =>
     (M98 f_1 k_15 n_12) n_25 ((w64 (i_11 + 1)))
    else
    k_15 n_10
def M99 (n_13 : Int) : Option (Bool) :=
 some (decide (n_13 ≤ 60))
def M100 (f_1 : TField) : Option (Bool) :=
 bif decide ((((f_1.Runners).length : Int)) > 6) then some false else
 bif decide ((((f_1.Pairs).length : Int)) > 3) then some false else
 (M96 f_1.Clocks).bind fun r_5 =>
 bif !r_5 then some false else
 M98 f_1 M99 (((((f_1.Runners).length : Int)) - 0 : Int).toNat + 1) 0 0
def M101 (h_1 : THistory) : Option (Bool) :=
 bif decide ((((h_1.Offsets).length : Int)) ≤ 20) then some (decide ((((h_1.Choices).length : Int)) ≤ 20)) else
 some false
def M102 (f_1 : TField) (h_2 : THistory) : Option (Bool) :=
 (M100 f_1).bind fun r_4 =>
 bif r_4 then
  (M101 h_2).bind fun r_7 =>
  some r_7
 else
 some false
def M103 (a_1 : List Int) (b_2 : List Int) (k_8 : Unit → Option (Bool)) : Nat → Int → Option (Bool)
  | 0, _ => none
  | n_6 + 1, i_5 =>
    bif decide (i_5 < (((a_1).length : Int))) then
     bif decide (i_5 < (((b_2).length : Int))) then
      (idx a_1 i_5).bind fun x_11 =>
      (idx b_2 i_5).bind fun x_12 =>
      bif x_11 != x_12 then
       (idx a_1 i_5).bind fun x_14 =>
       (idx b_2 i_5).bind fun x_15 =>
       some (decide (x_14 < x_15))
      else
      (M103 a_1 b_2 k_8 n_6) ((w64 (i_5 + 1)))
     else
     k_8 ()
    else
    k_8 ()
def M104 (a_1 : List Int) (b_2 : List Int) (_ : Unit) : Option (Bool) :=
 some (decide ((((a_1).length : Int)) < (((b_2).length : Int))))
def M105 (a_1 : List Int) (b_2 : List Int) : Option (Bool) :=
 M103 a_1 b_2 (M104 a_1 b_2) (((((a_1).length : Int)) - 0 : Int).toNat + 1) 0
def M106 (f_1 : TField) (h_2 : THistory) (runner_3 : Int) : Option (Int × Bool × Int) :=
 (M68 f_1 h_2 runner_3).bind fun (r_7, r_8) =>
 bif r_8 != 0 then some (0, false, r_8) else
 (M69 r_7 runner_3).bind fun (r_11, r_12) =>
 some (r_11, r_12, 0)
def M107 (f_1 : TField) (h_2 : THistory) (r_10 : List Int) (k_28 : (List (Int × Bool)) → Option (Bool)) : Nat → Int → Int → Int → (List (Int × Bool)) → Option (Bool)
  | 0, _, _, _, _ => none
  | n_25 + 1, last_21, before_22, i_23, m_24 =>
    bif decide (i_23 < (((r_10).length : Int))) then
     (idx r_10 i_23).bind fun x_30 =>
     (M77 f_1 h_2 x_30).bind fun (r_31, r_32) =>
     (idx r_10 i_23).bind fun x_34 =>
     (M106 f_1 h_2 x_34).bind fun (r_35, r_36, r_37) =>
     Option.bind (
      bif r_32 != 0 then some true else
      bif r_37 != 0 then some true else
      bif !r_36 then some true else
      (idx r_10 i_23).bind fun x_44 =>
      bif mapGet m_24 x_44 false then some true else
      bif r_31 != (w64 (i_23 + 1)) then
       bif i_23 == 0 then some true else
       bif r_31 != last_21 then some true else
       bif decide (i_23 > 0) then some (decide (r_35 < before_22)) else
       some false
      else
      bif decide (i_23 > 0) then some (decide (r_35 < before_22)) else
      some false
     ) fun v_39 =>
     bif v_39 then some false else
     (idx r_10 i_23).bind fun x_52 =>
     (M107 f_1 h_2 r_10 k_28 n_25) r_31 r_35 ((w64 (i_23 + 1))) (mapPut m_24 x_52 true)
    else
    k_28 m_24
def M108 (f_1 : TField) (h_2 : THistory) (m_26 : List (Int × Bool)) (k_57 : Unit → Option (Bool)) : Nat → Int → Option (Bool)
  | 0, _ => none
  | n_55 + 1, i_54 =>
    bif decide (i_54 < (((f_1.Runners).length : Int))) then
     (M77 f_1 h_2 i_54).bind fun (r_59, r_60) =>
     (M106 f_1 h_2 i_54).bind fun (r_62, r_63, r_64) =>
     bif (r_60 != 0) || ((r_64 != 0) || ((!((mapGet m_26 i_54 false) == (decide (r_59 > 0)))) || (!(r_63 == (decide (r_59 > 0)))))) then some false else
     (M108 f_1 h_2 m_26 k_57 n_55) ((w64 (i_54 + 1)))
    else
    k_57 ()
def M109 (_ : Unit) : Option (Bool) :=
 some true
def M110 (f_1 : TField) (h_2 : THistory) (m_26 : List (Int × Bool)) : Option (Bool) :=
 M108 f_1 h_2 m_26 M109 (((((f_1.Runners).length : Int)) - 0 : Int).toNat + 1) 0
def M111 (f_1 : TField) (h_2 : THistory) : Option (Bool) :=
 (M93).bind fun r_4 =>
 bif !r_4 then some false else
 (M102 f_1 h_2).bind fun r_7 =>
 bif !r_7 then some true else
 (M88 f_1 h_2).bind fun (r_10, r_11) =>
 bif r_11 != 0 then
  bif (((r_10).length : Int)) == 0 then
   (M92 f_1 h_2).bind fun r_15 =>
   some (r_11 == r_15)
  else
  some false
 else
 M107 f_1 h_2 r_10 (M110 f_1 h_2) (((((r_10).length : Int)) - 0 : Int).toNat + 1) 0 0 0 ((([] : List (Int × Bool))))
end Go.Stop
