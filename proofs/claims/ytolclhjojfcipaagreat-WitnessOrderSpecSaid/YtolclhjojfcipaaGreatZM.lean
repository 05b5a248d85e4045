/- Models of functions, by program (gen.py). No condition. -/
import Derived.Test.YtolclhjojfcipaaGreatZB7
import Derived.Lib.BitFns
namespace Go.Stop
open Go Go.Abs
set_option linter.unusedVariables false
structure TSegment where
  Mat : Int
  Epoch : Int
  Anchor : Int
  deriving DecidableEq, Inhabited
structure TClocks where
  Segments : List TSegment
  Far : List (List Int)
  deriving DecidableEq, Inhabited
structure TPair where
  A : Int
  B : Int
  deriving DecidableEq, Inhabited
structure TOutcome where
  Out : Bool
  Seg : Int
  Lo : Int
  Hi : Int
  deriving DecidableEq, Inhabited
structure TRunner where
  Bib : Int
  Keys : List Int
  Worlds : List (List TOutcome)
  deriving DecidableEq, Inhabited
structure TField where
  Clocks : TClocks
  Pairs : List TPair
  Runners : List TRunner
  deriving DecidableEq, Inhabited
structure TChoice where
  Outcome : Int
  X : Int
  deriving DecidableEq, Inhabited
structure THistory where
  World : Int
  Offsets : List Int
  Choices : List TChoice
  deriving DecidableEq, Inhabited
structure TProof where
  Bib : Int
  A : THistory
  B : THistory
  deriving DecidableEq, Inhabited
structure TRank where
  Bib : Int
  Kind : Int
  Lo : Int
  Hi : Int
  Out : Bool
  deriving DecidableEq, Inhabited
structure Twitness_duel where
  far : List (List Int)
  rival : TRunner
  runner : TRunner
  x : TOutcome
  deriving DecidableEq, Inhabited
structure Thistory_view where
  f : TField
  h : THistory
  deriving DecidableEq, Inhabited
structure Thistory_pair_int_int where
  first : Int
  second : Int
  deriving DecidableEq, Inhabited
structure Tranks_place where
  world : Int
  outcome : Int
  rank : Int
  deriving DecidableEq, Inhabited
structure Tclocks_place where
  mat : Int
  epoch : Int
  deriving DecidableEq, Inhabited
def eTSegment (x : TSegment) : D := .ag [(.i .i64 x.Mat), (.i .i64 x.Epoch), (.i .i64 x.Anchor)]
def eTClocks (x : TClocks) : D := .ag [(.ls (List.map eTSegment x.Segments)), (.ls (List.map (eL eI) x.Far))]
def eTPair (x : TPair) : D := .ag [(.i .i64 x.A), (.i .i64 x.B)]
def eTOutcome (x : TOutcome) : D := .ag [(.b x.Out), (.i .i64 x.Seg), (.i .i64 x.Lo), (.i .i64 x.Hi)]
def eTRunner (x : TRunner) : D := .ag [(.i .i64 x.Bib), (.ls (List.map eI x.Keys)), (.ls (List.map (eL eTOutcome) x.Worlds))]
def eTField (x : TField) : D := .ag [(.ls (List.map eTSegment x.Clocks.Segments)), (.ls (List.map (eL eI) x.Clocks.Far)), (.ls (List.map eTPair x.Pairs)), (.ls (List.map eTRunner x.Runners))]
def eTChoice (x : TChoice) : D := .ag [(.i .i64 x.Outcome), (.i .i64 x.X)]
def eTHistory (x : THistory) : D := .ag [(.i .i64 x.World), (.ls (List.map eI x.Offsets)), (.ls (List.map eTChoice x.Choices))]
def eTProof (x : TProof) : D := .ag [(.i .i64 x.Bib), (.i .i64 x.A.World), (.ls (List.map eI x.A.Offsets)), (.ls (List.map eTChoice x.A.Choices)), (.i .i64 x.B.World), (.ls (List.map eI x.B.Offsets)), (.ls (List.map eTChoice x.B.Choices))]
def eTRank (x : TRank) : D := .ag [(.i .i64 x.Bib), (.i .i64 x.Kind), (.i .i64 x.Lo), (.i .i64 x.Hi), (.b x.Out)]
def eTwitness_duel (x : Twitness_duel) : D := .ag [(.ls (List.map (eL eI) x.far)), (.i .i64 x.rival.Bib), (.ls (List.map eI x.rival.Keys)), (.ls (List.map (eL eTOutcome) x.rival.Worlds)), (.i .i64 x.runner.Bib), (.ls (List.map eI x.runner.Keys)), (.ls (List.map (eL eTOutcome) x.runner.Worlds)), (.b x.x.Out), (.i .i64 x.x.Seg), (.i .i64 x.x.Lo), (.i .i64 x.x.Hi)]
def eThistory_view (x : Thistory_view) : D := .ag [(.ls (List.map eTSegment x.f.Clocks.Segments)), (.ls (List.map (eL eI) x.f.Clocks.Far)), (.ls (List.map eTPair x.f.Pairs)), (.ls (List.map eTRunner x.f.Runners)), (.i .i64 x.h.World), (.ls (List.map eI x.h.Offsets)), (.ls (List.map eTChoice x.h.Choices))]
def eThistory_pair_int_int (x : Thistory_pair_int_int) : D := .ag [(.i .i64 x.first), (.i .i64 x.second)]
def eTranks_place (x : Tranks_place) : D := .ag [(.i .i64 x.world), (.i .i64 x.outcome), (.i .i64 x.rank)]
def eTclocks_place (x : Tclocks_place) : D := .ag [(.i .i64 x.mat), (.i .i64 x.epoch)]
def M0 : Option (TField) :=
 some ({ Clocks := ({ Segments := (([] : List TSegment)), Far := (([(([0] : List Int))] : List (List Int))) } : TClocks), Pairs := (([] : List TPair)), Runners := (([({ Bib := 3, Keys := (([] : List Int)), Worlds := (([(([({ Out := false, Seg := (-1), Lo := 10, Hi := 12 } : TOutcome)] : List TOutcome))] : List (List TOutcome))) } : TRunner), ({ Bib := 5, Keys := (([] : List Int)), Worlds := (([(([({ Out := false, Seg := (-1), Lo := 11, Hi := 13 } : TOutcome)] : List TOutcome))] : List (List TOutcome))) } : TRunner)] : List TRunner)) } : TField)
def M1 (a_1 : Int) (b_2 : Int) : Option (THistory) :=
 some ({ World := 0, Offsets := (([] : List Int)), Choices := (([({ Outcome := 0, X := a_1 } : TChoice), ({ Outcome := 0, X := b_2 } : TChoice)] : List TChoice)) } : THistory)
def M2 (n_1 : Int) : Option (Bool) :=
 bif decide (n_1 ≥ (-1099511627776)) then some (decide (n_1 ≤ 1099511627776)) else
 some false
def M3 (x_1 : Int) : Option (Bool) :=
 some (x_1 != x_1)
def M4 (x_1 : Int) (y_2 : Int) : Option (Int) :=
 (M3 x_1).bind fun r_4 =>
 (M3 y_2).bind fun r_6 =>
 bif r_4 then
  bif r_6 then some 0 else
  some (-1)
 else
 bif r_6 then some 1 else
 bif decide (x_1 < y_2) then some (-1) else
 bif decide (x_1 > y_2) then some 1 else
 some 0
def M5 (vals_1 : List Int) (k_7 : Unit → Option (Int)) : Nat → Int → Option (Int)
  | 0, _ => none
  | n_5 + 1, v_4 =>
    bif decide (v_4 < (((vals_1).length : Int))) then
     (idx vals_1 v_4).bind fun x_9 =>
     bif x_9 != 0 then some x_9 else
     (M5 vals_1 k_7 n_5) ((w64 (v_4 + 1)))
    else
    k_7 ()
def M6 (_ : Unit) : Option (Int) :=
 some 0
def M7 (vals_1 : List Int) : Option (Int) :=
 M5 vals_1 M6 (((((vals_1).length : Int)) - 0 : Int).toNat + 1) 0
def M8 (p_1 : Tclocks_place) (q_2 : Tclocks_place) : Option (Int) :=
 (M4 p_1.mat q_2.mat).bind fun r_4 =>
 (M4 p_1.epoch q_2.epoch).bind fun r_6 =>
 (M7 ((([r_4, r_6] : List Int)))).bind fun r_8 =>
 some r_8
def M9 (a_1 : TSegment) (b_2 : TSegment) : Option (Int) :=
 (M8 ({ mat := a_1.Mat, epoch := a_1.Epoch } : Tclocks_place) ({ mat := b_2.Mat, epoch := b_2.Epoch } : Tclocks_place)).bind fun r_4 =>
 some r_4
def M10 (w_1 : Int) : Option (Bool) :=
 bif decide (w_1 < (-2199023255552)) then some true else
 some (decide (w_1 > 2199023255552))
def M11 (s_1 : List Int) (k_7 : Unit → Option (Int)) : Nat → Int → Option (Int)
  | 0, _ => none
  | n_5 + 1, v_4 =>
    bif decide (v_4 < (((s_1).length : Int))) then
     (idx s_1 v_4).bind fun x_9 =>
     (M10 x_9).bind fun r_10 =>
     bif r_10 then some v_4 else
     (M11 s_1 k_7 n_5) ((w64 (v_4 + 1)))
    else
    k_7 ()
def M12 (_ : Unit) : Option (Int) :=
 some (-1)
def M13 (s_1 : List Int) : Option (Int) :=
 M11 s_1 M12 (((((s_1).length : Int)) - 0 : Int).toNat + 1) 0
def M14 (s_1 : List Int) : Option (Bool) :=
 (M13 s_1).bind fun r_3 =>
 some (decide (r_3 ≥ 0))
def M15 (k_1 : TClocks) (k_9 : Unit → Option (Int)) : Nat → Int → Option (Int)
  | 0, _ => none
  | n_7 + 1, v_6 =>
    bif decide (v_6 < (((k_1.Segments).length : Int))) then
     (idx k_1.Segments v_6).bind fun x_11 =>
     Option.bind (
      bif decide (x_11.Mat < 0) then some true else
      bif decide (x_11.Mat ≥ 40) then some true else
      bif decide (x_11.Epoch < 0) then some true else
      bif decide (x_11.Epoch > 255) then some true else
      (M2 x_11.Anchor).bind fun r_18 =>
      bif !r_18 then some true else
      bif decide (v_6 > 0) then
       (idx k_1.Segments (w64 (v_6 - 1))).bind fun x_22 =>
       (M9 x_22 x_11).bind fun r_23 =>
       some (decide (r_23 ≥ 0))
      else
      some false
     ) fun v_12 =>
     bif v_12 then some 160 else
     (M15 k_1 k_9 n_7) ((w64 (v_6 + 1)))
    else
    k_9 ()
def M16 (k_1 : TClocks) (k_30 : Unit → Option (Int)) : Nat → Int → Option (Int)
  | 0, _ => none
  | n_28 + 1, v_27 =>
    bif decide (v_27 < (((k_1.Far).length : Int))) then
     (idx k_1.Far v_27).bind fun x_32 =>
     bif (((x_32).length : Int)) != (w64 ((((k_1.Segments).length : Int)) + 1)) then some 160 else
     (idx x_32 v_27).bind fun x_34 =>
     bif x_34 != 0 then some 160 else
     (M14 x_32).bind fun r_36 =>
     bif r_36 then some 160 else
     (M16 k_1 k_30 n_28) ((w64 (v_27 + 1)))
    else
    k_30 ()
def M17 (k_1 : TClocks) (v_40 : Int) (x_52 : Int) (x_53 : List Int) (k_58 : Unit → Option (Int)) : Nat → Int → Option (Int)
  | 0, _ => none
  | n_56 + 1, v_55 =>
    bif decide (v_55 < (((x_53).length : Int))) then
     (idx x_53 v_55).bind fun x_60 =>
     (idx k_1.Far v_40).bind fun x_61 =>
     (idx x_61 v_55).bind fun x_62 =>
     bif decide (x_62 > (w64 (x_52 + x_60))) then some 160 else
     (M17 k_1 v_40 x_52 x_53 k_58 n_56) ((w64 (v_55 + 1)))
    else
    k_58 ()
def M18 (v_47 : Int) (nx_49 : Int → Option (Int)) (_ : Unit) : Option (Int) :=
 nx_49 ((w64 (v_47 + 1)))
def M19 (k_1 : TClocks) (v_40 : Int) (x_45 : List Int) (k_50 : Unit → Option (Int)) : Nat → Int → Option (Int)
  | 0, _ => none
  | n_48 + 1, v_47 =>
    bif decide (v_47 < (((x_45).length : Int))) then
     (idx x_45 v_47).bind fun x_52 =>
     (idx k_1.Far v_47).bind fun x_53 =>
     M17 k_1 v_40 x_52 x_53 (M18 v_47 (M19 k_1 v_40 x_45 k_50 n_48)) (((((x_53).length : Int)) - 0 : Int).toNat + 1) 0
    else
    k_50 ()
def M20 (v_40 : Int) (nx_42 : Int → Option (Int)) (_ : Unit) : Option (Int) :=
 nx_42 ((w64 (v_40 + 1)))
def M21 (k_1 : TClocks) (k_43 : Unit → Option (Int)) : Nat → Int → Option (Int)
  | 0, _ => none
  | n_41 + 1, v_40 =>
    bif decide (v_40 < (w64 ((((k_1.Segments).length : Int)) + 1))) then
     (idx k_1.Far v_40).bind fun x_45 =>
     M19 k_1 v_40 x_45 (M20 v_40 (M21 k_1 k_43 n_41)) (((((x_45).length : Int)) - 0 : Int).toNat + 1) 0
    else
    k_43 ()
def M22 (_ : Unit) : Option (Int) :=
 some 0
def M23 (k_1 : TClocks) (_ : Unit) : Option (Int) :=
 M21 k_1 M22 (((w64 ((((k_1.Segments).length : Int)) + 1)) - 0 : Int).toNat + 1) 0
def M24 (k_1 : TClocks) (_ : Unit) : Option (Int) :=
 M16 k_1 (M23 k_1) (((((k_1.Far).length : Int)) - 0 : Int).toNat + 1) 0
def M25 (k_1 : TClocks) : Option (Int) :=
 bif decide ((((k_1.Segments).length : Int)) > 511) then some 160 else
 bif (((k_1.Far).length : Int)) != (w64 ((((k_1.Segments).length : Int)) + 1)) then some 160 else
 M15 k_1 (M24 k_1) (((((k_1.Segments).length : Int)) - 0 : Int).toNat + 1) 0
def M26 (slices_1 : List (List TOutcome)) : Nat → Int → Int → Option (Int)
  | 0, _, _ => none
  | n_7 + 1, size_5, v_6 =>
    bif decide (v_6 < (((slices_1).length : Int))) then
     (idx slices_1 v_6).bind fun x_12 =>
     bif decide ((w64 (size_5 + (((x_12).length : Int)))) < 0) then none else
     (M26 slices_1 n_7) ((w64 (size_5 + (((x_12).length : Int))))) ((w64 (v_6 + 1)))
    else
    some size_5
def M27 (slices_1 : List (List TOutcome)) : Nat → Int → (List TOutcome) → Option (List TOutcome)
  | 0, _, _ => none
  | n_23 + 1, v_21, l_22 =>
    bif decide (v_21 < (((slices_1).length : Int))) then
     (idx slices_1 v_21).bind fun x_28 =>
     (app 32 l_22 x_28).bind fun l_29 =>
     (M27 slices_1 n_23) ((w64 (v_21 + 1))) l_29
    else
    some l_22
def M28 (slices_1 : List (List TOutcome)) : Nat → Int → (List TOutcome) → Option (List TOutcome)
  | 0, _, _ => none
  | n_35 + 1, v_33, l_34 =>
    bif decide (v_33 < (((slices_1).length : Int))) then
     (idx slices_1 v_33).bind fun x_40 =>
     (app 32 l_34 x_40).bind fun l_41 =>
     (M28 slices_1 n_35) ((w64 (v_33 + 1))) l_41
    else
    some l_34
def M29 (slices_1 : List (List TOutcome)) : Option (List TOutcome) :=
 (M26 slices_1 (((((slices_1).length : Int)) - 0 : Int).toNat + 1) 0 0).bind fun size_8 =>
 bif decide (size_8 < 0) then none else
 bif decide ((w64 (size_8 - 0)) > 0) then
  (mkZ 32 (w64 (size_8 - 0))).bind fun n_17 =>
  (slcTo (List.replicate n_17 ({ Out := false, Seg := 0, Lo := 0, Hi := 0 } : TOutcome)) 0).bind fun l_18 =>
  (M27 slices_1 (((((slices_1).length : Int)) - 0 : Int).toNat + 1) 0 l_18).bind fun l_24 =>
  some l_24
 else
 (M28 slices_1 (((((slices_1).length : Int)) - 0 : Int).toNat + 1) 0 ((([] : List TOutcome)))).bind fun l_36 =>
 some l_36
def M30 : Option (TOutcome) :=
 some ({ Out := true, Seg := (-1), Lo := 0, Hi := 0 } : TOutcome)
def M31 (k_1 : TClocks) (x_2 : TOutcome) : Option (Int) :=
 (M25 k_1).bind fun r_4 =>
 bif r_4 != 0 then some r_4 else
 bif x_2.Out then
  (M30).bind fun r_13 =>
  bif !((x_2.Out == r_13.Out) && ((x_2.Seg == r_13.Seg) && ((x_2.Lo == r_13.Lo) && ((x_2.Hi == r_13.Hi) && true)))) then some 230 else
  some 0
 else
 bif !((decide (x_2.Seg ≥ (-1))) && ((decide (x_2.Seg < (((k_1.Segments).length : Int)))) && ((decide (x_2.Lo ≥ (-288230376151711744))) && ((decide (x_2.Lo ≤ x_2.Hi)) && (decide (x_2.Hi ≤ 288230376151711744)))))) then some 230 else
 some 0
def M32 (r_1 : TRunner) (c_2 : Int) : Option (Bool) :=
 (idx r_1.Worlds c_2).bind fun x_4 =>
 some ((((x_4).length : Int)) == 0)
def M33 (s_1 : List TRunner) (c_2 : Int) (k_8 : Unit → Option (Int)) : Nat → Int → Option (Int)
  | 0, _ => none
  | n_6 + 1, v_5 =>
    bif decide (v_5 < (((s_1).length : Int))) then
     (idx s_1 v_5).bind fun x_10 =>
     (M32 x_10 c_2).bind fun r_11 =>
     bif r_11 then some v_5 else
     (M33 s_1 c_2 k_8 n_6) ((w64 (v_5 + 1)))
    else
    k_8 ()
def M34 (_ : Unit) : Option (Int) :=
 some (-1)
def M35 (s_1 : List TRunner) (c_2 : Int) : Option (Int) :=
 M33 s_1 c_2 M34 (((((s_1).length : Int)) - 0 : Int).toNat + 1) 0
def M36 (s_1 : List TRunner) (c_2 : Int) : Option (Bool) :=
 (M35 s_1 c_2).bind fun r_4 =>
 some (decide (r_4 ≥ 0))
def M37 (f_1 : TField) (k_7 : Unit → Option (Bool)) : Nat → Int → Option (Bool)
  | 0, _ => none
  | n_5 + 1, v_4 =>
    bif decide (v_4 < (w64 ((((f_1.Pairs).length : Int)) + 1))) then
     (M36 f_1.Runners v_4).bind fun r_9 =>
     bif !r_9 then some true else
     (M37 f_1 k_7 n_5) ((w64 (v_4 + 1)))
    else
    k_7 ()
def M38 (_ : Unit) : Option (Bool) :=
 some false
def M39 (f_1 : TField) : Option (Bool) :=
 M37 f_1 M38 (((w64 ((((f_1.Pairs).length : Int)) + 1)) - 0 : Int).toNat + 1) 0
def M40 (f_1 : TField) (k_19 : Unit → Option (Int)) : Nat → Int → Int → Int → Option (Int)
  | 0, _, _, _ => none
  | n_17 + 1, v_14, v_15, v_16 =>
    bif decide (v_14 < (((f_1.Pairs).length : Int))) then
     (idx f_1.Pairs v_14).bind fun x_21 =>
     bif (decide (x_21.A < 1)) || ((decide (x_21.A ≥ x_21.B)) || ((decide (x_21.B > 9999)) || ((decide (x_21.A < v_15)) || ((x_21.A == v_15) && (decide (x_21.B ≤ v_16)))))) then some 240 else
     (M40 f_1 k_19 n_17) ((w64 (v_14 + 1))) x_21.A x_21.B
    else
    k_19 ()
def M41 (f_1 : TField) (r_45 : List TOutcome) (k_51 : Unit → Option (Int)) : Nat → Int → Option (Int)
  | 0, _ => none
  | n_49 + 1, v_48 =>
    bif decide (v_48 < (((r_45).length : Int))) then
     (idx r_45 v_48).bind fun x_53 =>
     (M31 f_1.Clocks x_53).bind fun r_54 =>
     bif r_54 != 0 then some 240 else
     (M41 f_1 r_45 k_51 n_49) ((w64 (v_48 + 1)))
    else
    k_51 ()
def M42 (v_32 : Int) (nx_34 : Int → Int → Option (Int)) (x_37 : TRunner) (_ : Unit) : Option (Int) :=
 nx_34 x_37.Bib ((w64 (v_32 + 1)))
def M43 (f_1 : TField) (k_35 : Unit → Option (Int)) : Nat → Int → Int → Option (Int)
  | 0, _, _ => none
  | n_33 + 1, bib_31, v_32 =>
    bif decide (v_32 < (((f_1.Runners).length : Int))) then
     (idx f_1.Runners v_32).bind fun x_37 =>
     Option.bind (
      bif decide (x_37.Bib ≤ bib_31) then some true else
      bif decide (x_37.Bib > 9999) then some true else
      (idx f_1.Runners 0).bind fun x_42 =>
      bif (((x_37.Keys).length : Int)) != (((x_42.Keys).length : Int)) then some true else
      some ((((x_37.Worlds).length : Int)) != (w64 ((((f_1.Pairs).length : Int)) + 1)))
     ) fun v_38 =>
     bif v_38 then some 240 else
     (M29 x_37.Worlds).bind fun r_45 =>
     M41 f_1 r_45 (M42 v_32 (M43 f_1 k_35 n_33) x_37) (((((r_45).length : Int)) - 0 : Int).toNat + 1) 0
    else
    k_35 ()
def M44 (f_1 : TField) (_ : Unit) : Option (Int) :=
 (M39 f_1).bind fun r_57 =>
 bif !r_57 then some 240 else
 some 0
def M45 (f_1 : TField) (_ : Unit) : Option (Int) :=
 M43 f_1 (M44 f_1) (((((f_1.Runners).length : Int)) - 0 : Int).toNat + 1) 0 0
def M46 (f_1 : TField) : Option (Int) :=
 Option.bind (
  (M25 f_1.Clocks).bind fun r_5 =>
  bif r_5 != 0 then some true else
  bif decide ((((f_1.Pairs).length : Int)) > 16) then some true else
  bif decide ((((f_1.Runners).length : Int)) < 1) then some true else
  some (decide ((((f_1.Runners).length : Int)) > 4000))
 ) fun v_3 =>
 bif v_3 then some 240 else
 M40 f_1 (M45 f_1) (((((f_1.Pairs).length : Int)) - 0 : Int).toNat + 1) 0 0 0
def M47 (f_1 : TField) (runners_2 : List Int) (k_11 : Unit → Option (Int)) : Nat → Int → Option (Int)
  | 0, _ => none
  | n_9 + 1, v_8 =>
    bif decide (v_8 < (((runners_2).length : Int))) then
     (idx runners_2 v_8).bind fun x_13 =>
     bif decide (x_13 < 0) then some 250 else
     bif decide (x_13 ≥ (((f_1.Runners).length : Int))) then some 250 else
     (M47 f_1 runners_2 k_11 n_9) ((w64 (v_8 + 1)))
    else
    k_11 ()
def M48 (_ : Unit) : Option (Int) :=
 some 0
def M49 (f_1 : TField) (runners_2 : List Int) : Option (Int) :=
 (M46 f_1).bind fun r_4 =>
 bif r_4 != 0 then some 240 else
 M47 f_1 runners_2 M48 (((((runners_2).length : Int)) - 0 : Int).toNat + 1) 0
def M50 (f_1 : TField) : Option (List TSegment × List (List Int) × List TPair × List TRunner) :=
 some (f_1.Clocks.Segments, f_1.Clocks.Far, f_1.Pairs, f_1.Runners)
def M51 (r_1 : TRunner) (c_2 : Int) : Option (Bool) :=
 (idx r_1.Worlds c_2).bind fun x_4 =>
 some ((((x_4).length : Int)) == 0)
def M52 (s_1 : List TRunner) (c_2 : Int) (k_8 : Unit → Option (Int)) : Nat → Int → Option (Int)
  | 0, _ => none
  | n_6 + 1, v_5 =>
    bif decide (v_5 < (((s_1).length : Int))) then
     (idx s_1 v_5).bind fun x_10 =>
     (M51 x_10 c_2).bind fun r_11 =>
     bif r_11 then some v_5 else
     (M52 s_1 c_2 k_8 n_6) ((w64 (v_5 + 1)))
    else
    k_8 ()
def M53 (_ : Unit) : Option (Int) :=
 some (-1)
def M54 (s_1 : List TRunner) (c_2 : Int) : Option (Int) :=
 M52 s_1 c_2 M53 (((((s_1).length : Int)) - 0 : Int).toNat + 1) 0
def M55 (s_1 : List TRunner) (c_2 : Int) : Option (Bool) :=
 (M54 s_1 c_2).bind fun r_4 =>
 some (decide (r_4 ≥ 0))
def M56 (c_3 : List TPair) (c_4 : List TRunner) (k_9 : Unit → Option (List Int)) : Nat → Int → Option (List Int)
  | 0, _ => none
  | n_7 + 1, v_6 =>
    bif decide (v_6 < (w64 ((((c_3).length : Int)) + 1))) then
     (M55 c_4 v_6).bind fun r_11 =>
     bif !r_11 then
      Option.bind (
       (M56 c_3 c_4 k_9 n_7) ((w64 (v_6 + 1)))
      ) fun l => some (v_6 :: l)
     else
     (M56 c_3 c_4 k_9 n_7) ((w64 (v_6 + 1)))
    else
    k_9 ()
def M57 (_ : Unit) : Option (List Int) :=
 some []
def M58 (c_1 : List TSegment) (c_2 : List (List Int)) (c_3 : List TPair) (c_4 : List TRunner) : Option (List Int) :=
 M56 c_3 c_4 M57 (((w64 ((((c_3).length : Int)) + 1)) - 0 : Int).toNat + 1) 0
def M59 (x_1 : TOutcome) : Option (Bool) :=
 some x_1.Out
def M60 (s_1 : List TOutcome) (k_7 : Unit → Option (Int)) : Nat → Int → Option (Int)
  | 0, _ => none
  | n_5 + 1, v_4 =>
    bif decide (v_4 < (((s_1).length : Int))) then
     (idx s_1 v_4).bind fun x_9 =>
     (M59 x_9).bind fun r_10 =>
     bif r_10 then some v_4 else
     (M60 s_1 k_7 n_5) ((w64 (v_4 + 1)))
    else
    k_7 ()
def M61 (_ : Unit) : Option (Int) :=
 some (-1)
def M62 (s_1 : List TOutcome) : Option (Int) :=
 M60 s_1 M61 (((((s_1).length : Int)) - 0 : Int).toNat + 1) 0
def M63 (s_1 : List TOutcome) : Option (Bool) :=
 (M62 s_1).bind fun r_3 =>
 some (decide (r_3 ≥ 0))
def M64 : Option (Unit) :=
 some ()
def M65 (n_1 : Int) (m_2 : Int) : Option (Bool) :=
 some (decide (n_1 < m_2))
def M66 (x_1 : TOutcome) : Option (Int) :=
 some x_1.Hi
def M67 (far_1 : List (List Int)) (a_2 : Int) (b_3 : Int) : Option (Int) :=
 (idx far_1 a_2).bind fun x_5 =>
 (idx x_5 b_3).bind fun x_6 =>
 some x_6
def M68 (x_1 : TOutcome) : Option (Int) :=
 some x_1.Lo
def M69 (s_1 : List Int) (s_2 : List Int) (k_8 : Unit → Option (Int)) : Nat → Int → Option (Int)
  | 0, _ => none
  | n_6 + 1, v_5 =>
    bif decide (v_5 < (((s_1).length : Int))) then
     (idx s_1 v_5).bind fun x_10 =>
     bif decide (v_5 ≥ (((s_2).length : Int))) then some 1 else
     (idx s_2 v_5).bind fun x_12 =>
     (M4 x_10 x_12).bind fun r_13 =>
     bif r_13 != 0 then some r_13 else
     (M69 s_1 s_2 k_8 n_6) ((w64 (v_5 + 1)))
    else
    k_8 ()
def M70 (s_1 : List Int) (s_2 : List Int) (_ : Unit) : Option (Int) :=
 bif decide ((((s_1).length : Int)) < (((s_2).length : Int))) then some (-1) else
 some 0
def M71 (s_1 : List Int) (s_2 : List Int) : Option (Int) :=
 M69 s_1 s_2 (M70 s_1 s_2) (((((s_1).length : Int)) - 0 : Int).toNat + 1) 0
def M72 (f_1 : TField) (runner_2 : Int) (x_3 : TOutcome) (rival_4 : Int) (y_5 : TOutcome) : Option (Bool) :=
 bif y_5.Out then some false else
 (M66 y_5).bind fun r_8 =>
 (M67 f_1.Clocks.Far ((w64 (x_3.Seg + 1))) ((w64 (y_5.Seg + 1)))).bind fun r_10 =>
 (M68 x_3).bind fun r_12 =>
 bif decide ((w64 ((w64 (r_8 + r_10)) - r_12)) < 0) then some true else
 bif (w64 ((w64 (r_8 + r_10)) - r_12)) == 0 then
  (idx f_1.Runners rival_4).bind fun x_16 =>
  (idx f_1.Runners runner_2).bind fun x_17 =>
  (M71 x_16.Keys x_17.Keys).bind fun r_18 =>
  some (decide (r_18 < 0))
 else
 some false
def M73 (f_1 : TField) (runner_3 : Int) (x_4 : TOutcome) (rival_5 : Int) (r_8 : Bool) (x_11 : List TOutcome) (k_16 : Unit → Option (Int × Bool)) : Nat → Int → Option (Int × Bool)
  | 0, _ => none
  | n_14 + 1, v_13 =>
    bif decide (v_13 < (((x_11).length : Int))) then
     (idx x_11 v_13).bind fun x_18 =>
     (M72 f_1 runner_3 x_4 rival_5 x_18).bind fun r_19 =>
     bif r_19 == r_8 then some (v_13, r_8) else
     (M73 f_1 runner_3 x_4 rival_5 r_8 x_11 k_16 n_14) ((w64 (v_13 + 1)))
    else
    k_16 ()
def M74 (r_8 : Bool) (_ : Unit) : Option (Int × Bool) :=
 some (0, (!r_8))
def M75 (f_1 : TField) (w_2 : Int) (runner_3 : Int) (x_4 : TOutcome) (rival_5 : Int) : Option (Int × Bool) :=
 (M65 2 1).bind fun r_8 =>
 (idx f_1.Runners rival_5).bind fun x_10 =>
 (idx x_10.Worlds w_2).bind fun x_11 =>
 M73 f_1 runner_3 x_4 rival_5 r_8 x_11 (M74 r_8) (((((x_11).length : Int)) - 0 : Int).toNat + 1) 0
def M76 (f_1 : TField) (runner_2 : Int) (y_12 : Int) (x_42 : TOutcome) : Nat → Int → Int → Option (Int)
  | 0, _, _ => none
  | n_48 + 1, n_46, v_47 =>
    bif decide (v_47 < (((f_1.Runners).length : Int))) then
     bif v_47 == runner_2 then (M76 f_1 runner_2 y_12 x_42 n_48) n_46 ((w64 (v_47 + 1))) else
     (M75 f_1 y_12 runner_2 x_42 v_47).bind fun (r_54, r_55) =>
     bif r_55 then (M76 f_1 runner_2 y_12 x_42 n_48) ((w64 (n_46 + 1))) ((w64 (v_47 + 1))) else
     (M76 f_1 runner_2 y_12 x_42 n_48) n_46 ((w64 (v_47 + 1)))
    else
    some n_46
def M77 (f_1 : TField) (runner_2 : Int) (y_12 : Int) (x_23 : List TOutcome) : Nat → Int → Int → Int → Int → Bool → Option (Int × Int × Int × Bool)
  | 0, _, _, _, _, _ => none
  | n_34 + 1, v_29, v_30, v_31, v_32, v_33 =>
    bif decide (v_29 < (((x_23).length : Int))) then
     (idx x_23 v_29).bind fun x_42 =>
     bif x_42.Out then (M77 f_1 runner_2 y_12 x_23 n_34) ((w64 (v_29 + 1))) v_30 v_31 v_32 v_33 else
     (M76 f_1 runner_2 y_12 x_42 (((((f_1.Runners).length : Int)) - 0 : Int).toNat + 1) 1 0).bind fun n_49 =>
     Option.bind (
      bif !v_33 then some true else
      (M65 n_49 v_32).bind fun r_62 =>
      some r_62
     ) fun v_59 =>
     bif v_59 then (M77 f_1 runner_2 y_12 x_23 n_34) ((w64 (v_29 + 1))) y_12 v_29 n_49 true else
     (M77 f_1 runner_2 y_12 x_23 n_34) ((w64 (v_29 + 1))) v_30 v_31 v_32 v_33
    else
    some (v_30, v_31, v_32, v_33)
def M78 (f_1 : TField) (runner_2 : Int) (y : Int) (s : Int × Int × Int × Bool) : Option (Int × Int × Int × Bool) :=
  match y, s with
  | y_12, (v_17, v_18, v_19, v_20) =>
    (idx f_1.Runners runner_2).bind fun x_22 =>
    (idx x_22.Worlds y_12).bind fun x_23 =>
    (M77 f_1 runner_2 y_12 x_23 (((((x_23).length : Int)) - 0 : Int).toNat + 1) 0 v_17 v_18 v_19 v_20).bind fun (v_35, v_36, v_37, v_38) =>
    some (v_35, v_36, v_37, v_38)
def M79 (f_1 : TField) (runner_2 : Int) : Option (Tranks_place × Bool) :=
 (M50 f_1).bind fun (c_5, c_6, c_7, c_8) =>
 (M58 c_5 c_6 c_7 c_8).bind fun l_10 =>
 (foldO (M78 f_1 runner_2) l_10 (0, 0, 0, false)).bind fun (v_66, v_67, v_68, v_69) =>
 some (({ world := v_66, outcome := v_67, rank := v_68 } : Tranks_place), v_69)
def M80 : Option (Unit) :=
 some ()
def M81 (n_1 : Int) (m_2 : Int) : Option (Bool) :=
 some (decide (n_1 > m_2))
def M82 (far_1 : List (List Int)) (a_2 : Int) (b_3 : Int) : Option (Int) :=
 (idx far_1 b_3).bind fun x_5 =>
 (idx x_5 a_2).bind fun x_6 =>
 some (w64 (0 - x_6))
def M83 (f_1 : TField) (runner_2 : Int) (x_3 : TOutcome) (rival_4 : Int) (y_5 : TOutcome) : Option (Bool) :=
 bif y_5.Out then some false else
 (M68 y_5).bind fun r_8 =>
 (M82 f_1.Clocks.Far ((w64 (x_3.Seg + 1))) ((w64 (y_5.Seg + 1)))).bind fun r_10 =>
 (M66 x_3).bind fun r_12 =>
 bif decide ((w64 ((w64 (r_8 + r_10)) - r_12)) < 0) then some true else
 bif (w64 ((w64 (r_8 + r_10)) - r_12)) == 0 then
  (idx f_1.Runners rival_4).bind fun x_16 =>
  (idx f_1.Runners runner_2).bind fun x_17 =>
  (M71 x_16.Keys x_17.Keys).bind fun r_18 =>
  some (decide (r_18 < 0))
 else
 some false
def M84 (f_1 : TField) (runner_3 : Int) (x_4 : TOutcome) (rival_5 : Int) (r_8 : Bool) (x_11 : List TOutcome) (k_16 : Unit → Option (Int × Bool)) : Nat → Int → Option (Int × Bool)
  | 0, _ => none
  | n_14 + 1, v_13 =>
    bif decide (v_13 < (((x_11).length : Int))) then
     (idx x_11 v_13).bind fun x_18 =>
     (M83 f_1 runner_3 x_4 rival_5 x_18).bind fun r_19 =>
     bif r_19 == r_8 then some (v_13, r_8) else
     (M84 f_1 runner_3 x_4 rival_5 r_8 x_11 k_16 n_14) ((w64 (v_13 + 1)))
    else
    k_16 ()
def M85 (r_8 : Bool) (_ : Unit) : Option (Int × Bool) :=
 some (0, (!r_8))
def M86 (f_1 : TField) (w_2 : Int) (runner_3 : Int) (x_4 : TOutcome) (rival_5 : Int) : Option (Int × Bool) :=
 (M81 2 1).bind fun r_8 =>
 (idx f_1.Runners rival_5).bind fun x_10 =>
 (idx x_10.Worlds w_2).bind fun x_11 =>
 M84 f_1 runner_3 x_4 rival_5 r_8 x_11 (M85 r_8) (((((x_11).length : Int)) - 0 : Int).toNat + 1) 0
def M87 (f_1 : TField) (runner_2 : Int) (y_12 : Int) (x_42 : TOutcome) : Nat → Int → Int → Option (Int)
  | 0, _, _ => none
  | n_48 + 1, n_46, v_47 =>
    bif decide (v_47 < (((f_1.Runners).length : Int))) then
     bif v_47 == runner_2 then (M87 f_1 runner_2 y_12 x_42 n_48) n_46 ((w64 (v_47 + 1))) else
     (M86 f_1 y_12 runner_2 x_42 v_47).bind fun (r_54, r_55) =>
     bif r_55 then (M87 f_1 runner_2 y_12 x_42 n_48) ((w64 (n_46 + 1))) ((w64 (v_47 + 1))) else
     (M87 f_1 runner_2 y_12 x_42 n_48) n_46 ((w64 (v_47 + 1)))
    else
    some n_46
def M88 (f_1 : TField) (runner_2 : Int) (y_12 : Int) (x_23 : List TOutcome) : Nat → Int → Int → Int → Int → Bool → Option (Int × Int × Int × Bool)
  | 0, _, _, _, _, _ => none
  | n_34 + 1, v_29, v_30, v_31, v_32, v_33 =>
    bif decide (v_29 < (((x_23).length : Int))) then
     (idx x_23 v_29).bind fun x_42 =>
     bif x_42.Out then (M88 f_1 runner_2 y_12 x_23 n_34) ((w64 (v_29 + 1))) v_30 v_31 v_32 v_33 else
     (M87 f_1 runner_2 y_12 x_42 (((((f_1.Runners).length : Int)) - 0 : Int).toNat + 1) 1 0).bind fun n_49 =>
     Option.bind (
      bif !v_33 then some true else
      (M81 n_49 v_32).bind fun r_62 =>
      some r_62
     ) fun v_59 =>
     bif v_59 then (M88 f_1 runner_2 y_12 x_23 n_34) ((w64 (v_29 + 1))) y_12 v_29 n_49 true else
     (M88 f_1 runner_2 y_12 x_23 n_34) ((w64 (v_29 + 1))) v_30 v_31 v_32 v_33
    else
    some (v_30, v_31, v_32, v_33)
def M89 (f_1 : TField) (runner_2 : Int) (y : Int) (s : Int × Int × Int × Bool) : Option (Int × Int × Int × Bool) :=
  match y, s with
  | y_12, (v_17, v_18, v_19, v_20) =>
    (idx f_1.Runners runner_2).bind fun x_22 =>
    (idx x_22.Worlds y_12).bind fun x_23 =>
    (M88 f_1 runner_2 y_12 x_23 (((((x_23).length : Int)) - 0 : Int).toNat + 1) 0 v_17 v_18 v_19 v_20).bind fun (v_35, v_36, v_37, v_38) =>
    some (v_35, v_36, v_37, v_38)
def M90 (f_1 : TField) (runner_2 : Int) : Option (Tranks_place × Bool) :=
 (M50 f_1).bind fun (c_5, c_6, c_7, c_8) =>
 (M58 c_5 c_6 c_7 c_8).bind fun l_10 =>
 (foldO (M89 f_1 runner_2) l_10 (0, 0, 0, false)).bind fun (v_66, v_67, v_68, v_69) =>
 some (({ world := v_66, outcome := v_67, rank := v_68 } : Tranks_place), v_69)
def M91 (f_1 : TField) (runner_2 : Int) (y : Int) (s : Bool) : Option (Bool) :=
  match y, s with
  | y_12, v_14 =>
    bif v_14 then some true else
    (idx f_1.Runners runner_2).bind fun x_17 =>
    (idx x_17.Worlds y_12).bind fun x_18 =>
    (M63 x_18).bind fun r_19 =>
    some r_19
def M92 (f_1 : TField) (runner_2 : Int) : Option (TRank) :=
 (idx f_1.Runners runner_2).bind fun x_4 =>
 (M50 f_1).bind fun (c_5, c_6, c_7, c_8) =>
 (M58 c_5 c_6 c_7 c_8).bind fun l_10 =>
 (foldO (M91 f_1 runner_2) l_10 (false)).bind fun v_21 =>
 (M64).bind fun _ =>
 (M79 f_1 runner_2).bind fun (r_23, r_24) =>
 bif !r_24 then some ({ Bib := x_4.Bib, Kind := 3, Lo := 0, Hi := 0, Out := v_21 } : TRank) else
 (M80).bind fun _ =>
 (M90 f_1 runner_2).bind fun (r_28, r_29) =>
 bif r_23.rank == r_28.rank then
  bif !v_21 then some ({ Bib := x_4.Bib, Kind := 1, Lo := r_23.rank, Hi := r_28.rank, Out := v_21 } : TRank) else
  some ({ Bib := x_4.Bib, Kind := 2, Lo := r_23.rank, Hi := r_28.rank, Out := v_21 } : TRank)
 else
 some ({ Bib := x_4.Bib, Kind := 2, Lo := r_23.rank, Hi := r_28.rank, Out := v_21 } : TRank)
def M93 (f_1 : TField) (runner_2 : Int) : Option (TRank × Int) :=
 (M49 f_1 ((([runner_2] : List Int)))).bind fun r_5 =>
 bif r_5 != 0 then some (({ Bib := 0, Kind := 0, Lo := 0, Hi := 0, Out := false } : TRank), r_5) else
 (M92 f_1 runner_2).bind fun r_8 =>
 some (r_8, 0)
def M94 (k_1 : Int) (c_2 : Int) (c_3 : List TSegment) (c_4 : List (List Int)) (c_5 : List TPair) (c_6 : List TRunner) (c_7 : Int) : Option (Int) :=
 (M67 c_4 c_7 k_1).bind fun r_9 =>
 some (w64 (c_2 + r_9))
def M95 (f_1 : TField) (x_7 : TOutcome) (r_9 : Int) : Nat → Int → (List Int) → Option (List Int)
  | 0, _, _ => none
  | n_15 + 1, v_13, l_14 =>
    bif decide (v_13 < (((f_1.Clocks.Segments).length : Int))) then
     (M94 ((w64 (v_13 + 1))) ((w64 (0 - r_9))) f_1.Clocks.Segments f_1.Clocks.Far f_1.Pairs f_1.Runners ((w64 (x_7.Seg + 1)))).bind fun r_20 =>
     (app 8 l_14 (([r_20] : List Int))).bind fun l_22 =>
     (M95 f_1 x_7 r_9 n_15) ((w64 (v_13 + 1))) l_22
    else
    some l_14
def M96 (f_1 : TField) (runner_2 : Int) (p_3 : Tranks_place) (x_7 : TOutcome) : Nat → Int → (List TChoice) → Option (List TChoice)
  | 0, _, _ => none
  | n_28 + 1, v_26, l_27 =>
    bif decide (v_26 < (((f_1.Runners).length : Int))) then
     Option.bind (
      (idx f_1.Runners v_26).bind fun x_35 =>
      bif v_26 != runner_2 then
       (M75 f_1 p_3.world runner_2 x_7 v_26).bind fun (r_37, r_38) =>
       (idx x_35.Worlds p_3.world).bind fun x_40 =>
       (idx x_40 r_37).bind fun x_41 =>
       bif !x_41.Out then
        (M66 x_41).bind fun r_43 =>
        (app 16 l_27 (([({ Outcome := r_37, X := r_43 } : TChoice)] : List TChoice))).bind fun l_45 =>
        some l_45
       else
       (app 16 l_27 (([({ Outcome := r_37, X := 0 } : TChoice)] : List TChoice))).bind fun l_46 =>
       some l_46
      else
      (idx x_35.Worlds p_3.world).bind fun x_47 =>
      (idx x_47 p_3.outcome).bind fun x_48 =>
      bif !x_48.Out then
       (M68 x_48).bind fun r_50 =>
       (app 16 l_27 (([({ Outcome := p_3.outcome, X := r_50 } : TChoice)] : List TChoice))).bind fun l_52 =>
       some l_52
      else
      (app 16 l_27 (([({ Outcome := p_3.outcome, X := 0 } : TChoice)] : List TChoice))).bind fun l_53 =>
      some l_53
     ) fun l_33 =>
     (M96 f_1 runner_2 p_3 x_7 n_28) ((w64 (v_26 + 1))) l_33
    else
    some l_27
def M97 (f_1 : TField) (x_7 : TOutcome) : Nat → Int → (List Int) → Option (List Int)
  | 0, _, _ => none
  | n_59 + 1, v_57, l_58 =>
    bif decide (v_57 < (((f_1.Clocks.Segments).length : Int))) then
     (M94 ((w64 (v_57 + 1))) 0 f_1.Clocks.Segments f_1.Clocks.Far f_1.Pairs f_1.Runners ((w64 (x_7.Seg + 1)))).bind fun r_64 =>
     (app 8 l_58 (([r_64] : List Int))).bind fun l_66 =>
     (M97 f_1 x_7 n_59) ((w64 (v_57 + 1))) l_66
    else
    some l_58
def M98 (f_1 : TField) (runner_2 : Int) (p_3 : Tranks_place) (x_7 : TOutcome) : Nat → Int → (List TChoice) → Option (List TChoice)
  | 0, _, _ => none
  | n_72 + 1, v_70, l_71 =>
    bif decide (v_70 < (((f_1.Runners).length : Int))) then
     Option.bind (
      (idx f_1.Runners v_70).bind fun x_79 =>
      bif v_70 != runner_2 then
       (M75 f_1 p_3.world runner_2 x_7 v_70).bind fun (r_81, r_82) =>
       (idx x_79.Worlds p_3.world).bind fun x_84 =>
       (idx x_84 r_81).bind fun x_85 =>
       bif !x_85.Out then
        (M66 x_85).bind fun r_87 =>
        (app 16 l_71 (([({ Outcome := r_81, X := r_87 } : TChoice)] : List TChoice))).bind fun l_89 =>
        some l_89
       else
       (app 16 l_71 (([({ Outcome := r_81, X := 0 } : TChoice)] : List TChoice))).bind fun l_90 =>
       some l_90
      else
      (idx x_79.Worlds p_3.world).bind fun x_91 =>
      (idx x_91 p_3.outcome).bind fun x_92 =>
      bif !x_92.Out then
       (M68 x_92).bind fun r_94 =>
       (app 16 l_71 (([({ Outcome := p_3.outcome, X := r_94 } : TChoice)] : List TChoice))).bind fun l_96 =>
       some l_96
      else
      (app 16 l_71 (([({ Outcome := p_3.outcome, X := 0 } : TChoice)] : List TChoice))).bind fun l_97 =>
      some l_97
     ) fun l_77 =>
     (M98 f_1 runner_2 p_3 x_7 n_72) ((w64 (v_70 + 1))) l_77
    else
    some l_71
def M99 (f_1 : TField) (runner_2 : Int) (p_3 : Tranks_place) : Option (THistory) :=
 (idx f_1.Runners runner_2).bind fun x_5 =>
 (idx x_5.Worlds p_3.world).bind fun x_6 =>
 (idx x_6 p_3.outcome).bind fun x_7 =>
 bif decide ((w64 (x_7.Seg + 1)) > 0) then
  (M67 f_1.Clocks.Far ((w64 (x_7.Seg + 1))) 0).bind fun r_9 =>
  (M95 f_1 x_7 r_9 (((((f_1.Clocks.Segments).length : Int)) - 0 : Int).toNat + 1) 0 ((([] : List Int)))).bind fun l_16 =>
  (M96 f_1 runner_2 p_3 x_7 (((((f_1.Runners).length : Int)) - 0 : Int).toNat + 1) 0 ((([] : List TChoice)))).bind fun l_29 =>
  some ({ World := p_3.world, Offsets := l_16, Choices := l_29 } : THistory)
 else
 (M97 f_1 x_7 (((((f_1.Clocks.Segments).length : Int)) - 0 : Int).toNat + 1) 0 ((([] : List Int)))).bind fun l_60 =>
 (M98 f_1 runner_2 p_3 x_7 (((((f_1.Runners).length : Int)) - 0 : Int).toNat + 1) 0 ((([] : List TChoice)))).bind fun l_73 =>
 some ({ World := p_3.world, Offsets := l_60, Choices := l_73 } : THistory)
def M100 (f_1 : TField) (runner_2 : Int) : Option (THistory × Bool × Int) :=
 (M49 f_1 ((([runner_2] : List Int)))).bind fun r_6 =>
 bif r_6 != 0 then some (({ World := 0, Offsets := (([] : List Int)), Choices := (([] : List TChoice)) } : THistory), false, r_6) else
 (M79 f_1 runner_2).bind fun (r_9, r_10) =>
 bif !r_10 then some (({ World := 0, Offsets := (([] : List Int)), Choices := (([] : List TChoice)) } : THistory), false, 0) else
 (M99 f_1 runner_2 r_9).bind fun r_13 =>
 some (r_13, true, 0)
def M101 (f_1 : TField) (runner_2 : Int) : Option (THistory × Bool × Int) :=
 (M64).bind fun _ =>
 (M100 f_1 runner_2).bind fun (r_7, r_8, r_9) =>
 some (r_7, r_8, r_9)
def M102 (f_1 : TField) : Option (List TSegment × List (List Int) × List TPair × List TRunner) :=
 some (f_1.Clocks.Segments, f_1.Clocks.Far, f_1.Pairs, f_1.Runners)
def M103 (r_1 : TRunner) (c_2 : Int) : Option (Bool) :=
 (idx r_1.Worlds c_2).bind fun x_4 =>
 some ((((x_4).length : Int)) == 0)
def M104 (s_1 : List TRunner) (c_2 : Int) (k_8 : Unit → Option (Int)) : Nat → Int → Option (Int)
  | 0, _ => none
  | n_6 + 1, v_5 =>
    bif decide (v_5 < (((s_1).length : Int))) then
     (idx s_1 v_5).bind fun x_10 =>
     (M103 x_10 c_2).bind fun r_11 =>
     bif r_11 then some v_5 else
     (M104 s_1 c_2 k_8 n_6) ((w64 (v_5 + 1)))
    else
    k_8 ()
def M105 (_ : Unit) : Option (Int) :=
 some (-1)
def M106 (s_1 : List TRunner) (c_2 : Int) : Option (Int) :=
 M104 s_1 c_2 M105 (((((s_1).length : Int)) - 0 : Int).toNat + 1) 0
def M107 (s_1 : List TRunner) (c_2 : Int) : Option (Bool) :=
 (M106 s_1 c_2).bind fun r_4 =>
 some (decide (r_4 ≥ 0))
def M108 (c_3 : List TPair) (c_4 : List TRunner) (k_9 : Unit → Option (List Int)) : Nat → Int → Option (List Int)
  | 0, _ => none
  | n_7 + 1, v_6 =>
    bif decide (v_6 < (w64 ((((c_3).length : Int)) + 1))) then
     (M107 c_4 v_6).bind fun r_11 =>
     bif !r_11 then
      Option.bind (
       (M108 c_3 c_4 k_9 n_7) ((w64 (v_6 + 1)))
      ) fun l => some (v_6 :: l)
     else
     (M108 c_3 c_4 k_9 n_7) ((w64 (v_6 + 1)))
    else
    k_9 ()
def M109 (_ : Unit) : Option (List Int) :=
 some []
def M110 (c_1 : List TSegment) (c_2 : List (List Int)) (c_3 : List TPair) (c_4 : List TRunner) : Option (List Int) :=
 M108 c_3 c_4 M109 (((w64 ((((c_3).length : Int)) + 1)) - 0 : Int).toNat + 1) 0
def M111 (x_1 : TOutcome) : Option (Bool) :=
 some x_1.Out
def M112 (s_1 : List TOutcome) (k_7 : Unit → Option (Int)) : Nat → Int → Option (Int)
  | 0, _ => none
  | n_5 + 1, v_4 =>
    bif decide (v_4 < (((s_1).length : Int))) then
     (idx s_1 v_4).bind fun x_9 =>
     (M111 x_9).bind fun r_10 =>
     bif r_10 then some v_4 else
     (M112 s_1 k_7 n_5) ((w64 (v_4 + 1)))
    else
    k_7 ()
def M113 (_ : Unit) : Option (Int) :=
 some (-1)
def M114 (s_1 : List TOutcome) : Option (Int) :=
 M112 s_1 M113 (((((s_1).length : Int)) - 0 : Int).toNat + 1) 0
def M115 (s_1 : List Int) : Option (List Int) :=
 (app 8 (([] : List Int)) s_1).bind fun l_4 =>
 some l_4
def M116 (f_1 : TField) (runner_2 : Int) (y_12 : Int) (r_19 : Int) : Nat → Int → (List TChoice) → Option (List TChoice)
  | 0, _, _ => none
  | n_30 + 1, v_28, l_29 =>
    bif decide (v_28 < (((f_1.Runners).length : Int))) then
     (idx f_1.Runners v_28).bind fun x_35 =>
     (idx x_35.Worlds y_12).bind fun x_36 =>
     (idx x_36 0).bind fun x_37 =>
     bif v_28 == runner_2 then
      (app 16 l_29 (([({ Outcome := r_19, X := 0 } : TChoice)] : List TChoice))).bind fun l_39 =>
      (M116 f_1 runner_2 y_12 r_19 n_30) ((w64 (v_28 + 1))) l_39
     else
     (app 16 l_29 (([({ Outcome := 0, X := x_37.Lo } : TChoice)] : List TChoice))).bind fun l_40 =>
     (M116 f_1 runner_2 y_12 r_19 n_30) ((w64 (v_28 + 1))) l_40
    else
    some l_29
def M117 (f_1 : TField) (runner_2 : Int) (y : Int) (s : Unit) : Option ((Unit) ⊕ (Int × List Int × List TChoice)) :=
  match y, s with
  | y_12, _ =>
    (idx f_1.Runners runner_2).bind fun x_17 =>
    (idx x_17.Worlds y_12).bind fun x_18 =>
    (M114 x_18).bind fun r_19 =>
    bif decide (r_19 < 0) then some (.inl ()) else
    (idx f_1.Clocks.Far 0).bind fun x_22 =>
    (slcFrom x_22 1).bind fun l_23 =>
    (M115 l_23).bind fun r_24 =>
    (M116 f_1 runner_2 y_12 r_19 (((((f_1.Runners).length : Int)) - 0 : Int).toNat + 1) 0 ((([] : List TChoice)))).bind fun l_31 =>
    some (.inr (y_12, r_24, l_31))
def M118 (f_1 : TField) (runner_2 : Int) : Option (THistory × Bool) :=
 (M102 f_1).bind fun (c_5, c_6, c_7, c_8) =>
 (M110 c_5 c_6 c_7 c_8).bind fun l_10 =>
 (foldE (M117 f_1 runner_2) l_10 ()).bind fun q => match q with
 | .inl _ =>
  some (({ World := 0, Offsets := (([] : List Int)), Choices := (([] : List TChoice)) } : THistory), false)
 | .inr (v_43, v_44, l_45) =>
  some (({ World := v_43, Offsets := v_44, Choices := l_45 } : THistory), true)
def M119 (k_1 : Int) (c_2 : Int) (c_3 : List TSegment) (c_4 : List (List Int)) (c_5 : List TPair) (c_6 : List TRunner) (c_7 : Int) : Option (Int) :=
 (M82 c_4 c_7 k_1).bind fun r_9 =>
 some (w64 (c_2 + r_9))
def M120 (f_1 : TField) (x_7 : TOutcome) (r_9 : Int) : Nat → Int → (List Int) → Option (List Int)
  | 0, _, _ => none
  | n_15 + 1, v_13, l_14 =>
    bif decide (v_13 < (((f_1.Clocks.Segments).length : Int))) then
     (M119 ((w64 (v_13 + 1))) ((w64 (0 - r_9))) f_1.Clocks.Segments f_1.Clocks.Far f_1.Pairs f_1.Runners ((w64 (x_7.Seg + 1)))).bind fun r_20 =>
     (app 8 l_14 (([r_20] : List Int))).bind fun l_22 =>
     (M120 f_1 x_7 r_9 n_15) ((w64 (v_13 + 1))) l_22
    else
    some l_14
def M121 (f_1 : TField) (runner_2 : Int) (p_3 : Tranks_place) (x_7 : TOutcome) : Nat → Int → (List TChoice) → Option (List TChoice)
  | 0, _, _ => none
  | n_28 + 1, v_26, l_27 =>
    bif decide (v_26 < (((f_1.Runners).length : Int))) then
     Option.bind (
      (idx f_1.Runners v_26).bind fun x_35 =>
      bif v_26 != runner_2 then
       (M86 f_1 p_3.world runner_2 x_7 v_26).bind fun (r_37, r_38) =>
       (idx x_35.Worlds p_3.world).bind fun x_40 =>
       (idx x_40 r_37).bind fun x_41 =>
       bif !x_41.Out then
        (M68 x_41).bind fun r_43 =>
        (app 16 l_27 (([({ Outcome := r_37, X := r_43 } : TChoice)] : List TChoice))).bind fun l_45 =>
        some l_45
       else
       (app 16 l_27 (([({ Outcome := r_37, X := 0 } : TChoice)] : List TChoice))).bind fun l_46 =>
       some l_46
      else
      (idx x_35.Worlds p_3.world).bind fun x_47 =>
      (idx x_47 p_3.outcome).bind fun x_48 =>
      bif !x_48.Out then
       (M66 x_48).bind fun r_50 =>
       (app 16 l_27 (([({ Outcome := p_3.outcome, X := r_50 } : TChoice)] : List TChoice))).bind fun l_52 =>
       some l_52
      else
      (app 16 l_27 (([({ Outcome := p_3.outcome, X := 0 } : TChoice)] : List TChoice))).bind fun l_53 =>
      some l_53
     ) fun l_33 =>
     (M121 f_1 runner_2 p_3 x_7 n_28) ((w64 (v_26 + 1))) l_33
    else
    some l_27
def M122 (f_1 : TField) (x_7 : TOutcome) : Nat → Int → (List Int) → Option (List Int)
  | 0, _, _ => none
  | n_59 + 1, v_57, l_58 =>
    bif decide (v_57 < (((f_1.Clocks.Segments).length : Int))) then
     (M119 ((w64 (v_57 + 1))) 0 f_1.Clocks.Segments f_1.Clocks.Far f_1.Pairs f_1.Runners ((w64 (x_7.Seg + 1)))).bind fun r_64 =>
     (app 8 l_58 (([r_64] : List Int))).bind fun l_66 =>
     (M122 f_1 x_7 n_59) ((w64 (v_57 + 1))) l_66
    else
    some l_58
def M123 (f_1 : TField) (runner_2 : Int) (p_3 : Tranks_place) (x_7 : TOutcome) : Nat → Int → (List TChoice) → Option (List TChoice)
  | 0, _, _ => none
  | n_72 + 1, v_70, l_71 =>
    bif decide (v_70 < (((f_1.Runners).length : Int))) then
     Option.bind (
      (idx f_1.Runners v_70).bind fun x_79 =>
      bif v_70 != runner_2 then
       (M86 f_1 p_3.world runner_2 x_7 v_70).bind fun (r_81, r_82) =>
       (idx x_79.Worlds p_3.world).bind fun x_84 =>
       (idx x_84 r_81).bind fun x_85 =>
       bif !x_85.Out then
        (M68 x_85).bind fun r_87 =>
        (app 16 l_71 (([({ Outcome := r_81, X := r_87 } : TChoice)] : List TChoice))).bind fun l_89 =>
        some l_89
       else
       (app 16 l_71 (([({ Outcome := r_81, X := 0 } : TChoice)] : List TChoice))).bind fun l_90 =>
       some l_90
      else
      (idx x_79.Worlds p_3.world).bind fun x_91 =>
      (idx x_91 p_3.outcome).bind fun x_92 =>
      bif !x_92.Out then
       (M66 x_92).bind fun r_94 =>
       (app 16 l_71 (([({ Outcome := p_3.outcome, X := r_94 } : TChoice)] : List TChoice))).bind fun l_96 =>
       some l_96
      else
      (app 16 l_71 (([({ Outcome := p_3.outcome, X := 0 } : TChoice)] : List TChoice))).bind fun l_97 =>
      some l_97
     ) fun l_77 =>
     (M123 f_1 runner_2 p_3 x_7 n_72) ((w64 (v_70 + 1))) l_77
    else
    some l_71
def M124 (f_1 : TField) (runner_2 : Int) (p_3 : Tranks_place) : Option (THistory) :=
 (idx f_1.Runners runner_2).bind fun x_5 =>
 (idx x_5.Worlds p_3.world).bind fun x_6 =>
 (idx x_6 p_3.outcome).bind fun x_7 =>
 bif decide ((w64 (x_7.Seg + 1)) > 0) then
  (M82 f_1.Clocks.Far ((w64 (x_7.Seg + 1))) 0).bind fun r_9 =>
  (M120 f_1 x_7 r_9 (((((f_1.Clocks.Segments).length : Int)) - 0 : Int).toNat + 1) 0 ((([] : List Int)))).bind fun l_16 =>
  (M121 f_1 runner_2 p_3 x_7 (((((f_1.Runners).length : Int)) - 0 : Int).toNat + 1) 0 ((([] : List TChoice)))).bind fun l_29 =>
  some ({ World := p_3.world, Offsets := l_16, Choices := l_29 } : THistory)
 else
 (M122 f_1 x_7 (((((f_1.Clocks.Segments).length : Int)) - 0 : Int).toNat + 1) 0 ((([] : List Int)))).bind fun l_60 =>
 (M123 f_1 runner_2 p_3 x_7 (((((f_1.Runners).length : Int)) - 0 : Int).toNat + 1) 0 ((([] : List TChoice)))).bind fun l_73 =>
 some ({ World := p_3.world, Offsets := l_60, Choices := l_73 } : THistory)
def M125 (f_1 : TField) (runner_2 : Int) : Option (THistory × Bool × Int) :=
 (M49 f_1 ((([runner_2] : List Int)))).bind fun r_6 =>
 bif r_6 != 0 then some (({ World := 0, Offsets := (([] : List Int)), Choices := (([] : List TChoice)) } : THistory), false, r_6) else
 (M90 f_1 runner_2).bind fun (r_9, r_10) =>
 bif !r_10 then some (({ World := 0, Offsets := (([] : List Int)), Choices := (([] : List TChoice)) } : THistory), false, 0) else
 (M124 f_1 runner_2 r_9).bind fun r_13 =>
 some (r_13, true, 0)
def M126 (f_1 : TField) (runner_2 : Int) : Option (THistory × Bool × Int) :=
 (M80).bind fun _ =>
 (M125 f_1 runner_2).bind fun (r_7, r_8, r_9) =>
 some (r_7, r_8, r_9)
def M127 (f_1 : TField) (runner_2 : Int) : Option (TProof × Int) :=
 (M93 f_1 runner_2).bind fun (r_5, r_6) =>
 bif r_6 != 0 then some (({ Bib := 0, A := ({ World := 0, Offsets := (([] : List Int)), Choices := (([] : List TChoice)) } : THistory), B := ({ World := 0, Offsets := (([] : List Int)), Choices := (([] : List TChoice)) } : THistory) } : TProof), r_6) else
 bif r_5.Kind != 2 then some (({ Bib := 0, A := ({ World := 0, Offsets := (([] : List Int)), Choices := (([] : List TChoice)) } : THistory), B := ({ World := 0, Offsets := (([] : List Int)), Choices := (([] : List TChoice)) } : THistory) } : TProof), 270) else
 (M101 f_1 runner_2).bind fun (r_10, r_11, r_12) =>
 bif r_5.Lo == r_5.Hi then
  (M118 f_1 runner_2).bind fun (r_15, r_16) =>
  bif !r_11 then some (({ Bib := 0, A := ({ World := 0, Offsets := (([] : List Int)), Choices := (([] : List TChoice)) } : THistory), B := ({ World := 0, Offsets := (([] : List Int)), Choices := (([] : List TChoice)) } : THistory) } : TProof), 270) else
  bif !r_16 then some (({ Bib := 0, A := ({ World := 0, Offsets := (([] : List Int)), Choices := (([] : List TChoice)) } : THistory), B := ({ World := 0, Offsets := (([] : List Int)), Choices := (([] : List TChoice)) } : THistory) } : TProof), 270) else
  some (({ Bib := r_5.Bib, A := r_10, B := r_15 } : TProof), 0)
 else
 (M126 f_1 runner_2).bind fun (r_20, r_21, r_22) =>
 bif !r_11 then some (({ Bib := 0, A := ({ World := 0, Offsets := (([] : List Int)), Choices := (([] : List TChoice)) } : THistory), B := ({ World := 0, Offsets := (([] : List Int)), Choices := (([] : List TChoice)) } : THistory) } : TProof), 270) else
 bif !r_21 then some (({ Bib := 0, A := ({ World := 0, Offsets := (([] : List Int)), Choices := (([] : List TChoice)) } : THistory), B := ({ World := 0, Offsets := (([] : List Int)), Choices := (([] : List TChoice)) } : THistory) } : TProof), 270) else
 some (({ Bib := r_5.Bib, A := r_10, B := r_20 } : TProof), 0)
def M128 (n_1 : Int) : Option (Bool) :=
 bif decide (n_1 ≥ (-1099511627776)) then some (decide (n_1 ≤ 1099511627776)) else
 some false
def M129 (a_1 : TSegment) (b_2 : TSegment) : Option (Bool) :=
 bif decide (a_1.Mat < b_2.Mat) then some true else
 bif a_1.Mat == b_2.Mat then some (decide (a_1.Epoch < b_2.Epoch)) else
 some false
def M130 (k_1 : TClocks) (k_9 : Unit → Option (Int)) : Nat → Int → Option (Int)
  | 0, _ => none
  | n_7 + 1, i_6 =>
    bif decide (i_6 < (((k_1.Segments).length : Int))) then
     (idx k_1.Segments i_6).bind fun x_11 =>
     Option.bind (
      bif decide (x_11.Mat < 0) then some true else
      bif decide (x_11.Mat ≥ 40) then some true else
      bif decide (x_11.Epoch < 0) then some true else
      bif decide (x_11.Epoch > 255) then some true else
      (M128 x_11.Anchor).bind fun r_18 =>
      bif !r_18 then some true else
      bif decide (i_6 > 0) then
       (idx k_1.Segments (w64 (i_6 - 1))).bind fun x_22 =>
       (M129 x_22 x_11).bind fun r_23 =>
       some (!r_23)
      else
      some false
     ) fun v_12 =>
     bif v_12 then some 160 else
     (M130 k_1 k_9 n_7) ((w64 (i_6 + 1)))
    else
    k_9 ()
def M131 (k_1 : TClocks) (i_27 : Int) (k_41 : Unit → Option (Int)) : Nat → Int → Option (Int)
  | 0, _ => none
  | n_39 + 1, j_38 =>
    bif decide (j_38 ≤ (((k_1.Segments).length : Int))) then
     (idx k_1.Far i_27).bind fun x_43 =>
     (idx x_43 j_38).bind fun x_44 =>
     bif decide (x_44 < (-2199023255552)) then some 160 else
     (idx k_1.Far i_27).bind fun x_46 =>
     (idx x_46 j_38).bind fun x_47 =>
     bif decide (x_47 > 2199023255552) then some 160 else
     (M131 k_1 i_27 k_41 n_39) ((w64 (j_38 + 1)))
    else
    k_41 ()
def M132 (i_27 : Int) (nx_29 : Int → Option (Int)) (_ : Unit) : Option (Int) :=
 nx_29 ((w64 (i_27 + 1)))
def M133 (k_1 : TClocks) (k_30 : Unit → Option (Int)) : Nat → Int → Option (Int)
  | 0, _ => none
  | n_28 + 1, i_27 =>
    bif decide (i_27 ≤ (((k_1.Segments).length : Int))) then
     (idx k_1.Far i_27).bind fun x_32 =>
     bif (((x_32).length : Int)) != (w64 ((((k_1.Segments).length : Int)) + 1)) then some 160 else
     (idx k_1.Far i_27).bind fun x_34 =>
     (idx x_34 i_27).bind fun x_35 =>
     bif x_35 != 0 then some 160 else
     M131 k_1 i_27 (M132 i_27 (M133 k_1 k_30 n_28)) (((((k_1.Segments).length : Int)) + 1 - 0 : Int).toNat + 1) 0
    else
    k_30 ()
def M134 (k_1 : TClocks) (i_50 : Int) (j_56 : Int) (k_65 : Unit → Option (Int)) : Nat → Int → Option (Int)
  | 0, _ => none
  | n_63 + 1, m_62 =>
    bif decide (m_62 ≤ (((k_1.Segments).length : Int))) then
     (idx k_1.Far i_50).bind fun x_67 =>
     (idx x_67 m_62).bind fun x_68 =>
     (idx k_1.Far i_50).bind fun x_69 =>
     (idx x_69 j_56).bind fun x_70 =>
     (idx k_1.Far j_56).bind fun x_71 =>
     (idx x_71 m_62).bind fun x_72 =>
     bif decide (x_68 > (w64 (x_70 + x_72))) then some 160 else
     (M134 k_1 i_50 j_56 k_65 n_63) ((w64 (m_62 + 1)))
    else
    k_65 ()
def M135 (j_56 : Int) (nx_58 : Int → Option (Int)) (_ : Unit) : Option (Int) :=
 nx_58 ((w64 (j_56 + 1)))
def M136 (k_1 : TClocks) (i_50 : Int) (k_59 : Unit → Option (Int)) : Nat → Int → Option (Int)
  | 0, _ => none
  | n_57 + 1, j_56 =>
    bif decide (j_56 ≤ (((k_1.Segments).length : Int))) then M134 k_1 i_50 j_56 (M135 j_56 (M136 k_1 i_50 k_59 n_57)) (((((k_1.Segments).length : Int)) + 1 - 0 : Int).toNat + 1) 0 else
    k_59 ()
def M137 (i_50 : Int) (nx_52 : Int → Option (Int)) (_ : Unit) : Option (Int) :=
 nx_52 ((w64 (i_50 + 1)))
def M138 (k_1 : TClocks) (k_53 : Unit → Option (Int)) : Nat → Int → Option (Int)
  | 0, _ => none
  | n_51 + 1, i_50 =>
    bif decide (i_50 ≤ (((k_1.Segments).length : Int))) then M136 k_1 i_50 (M137 i_50 (M138 k_1 k_53 n_51)) (((((k_1.Segments).length : Int)) + 1 - 0 : Int).toNat + 1) 0 else
    k_53 ()
def M139 (_ : Unit) : Option (Int) :=
 some 0
def M140 (k_1 : TClocks) (_ : Unit) : Option (Int) :=
 M138 k_1 M139 (((((k_1.Segments).length : Int)) + 1 - 0 : Int).toNat + 1) 0
def M141 (k_1 : TClocks) (_ : Unit) : Option (Int) :=
 M133 k_1 (M140 k_1) (((((k_1.Segments).length : Int)) + 1 - 0 : Int).toNat + 1) 0
def M142 (k_1 : TClocks) : Option (Int) :=
 bif decide ((((k_1.Segments).length : Int)) > 511) then some 160 else
 bif (((k_1.Far).length : Int)) != (w64 ((((k_1.Segments).length : Int)) + 1)) then some 160 else
 M130 k_1 (M141 k_1) (((((k_1.Segments).length : Int)) - 0 : Int).toNat + 1) 0
def M143 (n_1 : Int) (least_2 : Int) (most_3 : Int) : Option (Bool) :=
 bif decide (n_1 ≥ least_2) then some (decide (n_1 ≤ most_3)) else
 some false
def M144 (n_1 : Int) : Option (Bool) :=
 (M143 n_1 1 9999).bind fun r_3 =>
 some r_3
def M145 (k_1 : TClocks) (x_2 : TOutcome) : Option (Int) :=
 (M142 k_1).bind fun r_4 =>
 bif r_4 != 0 then some r_4 else
 bif bif x_2.Out then ((x_2.Seg != (-1)) || ((x_2.Lo != 0) || (x_2.Hi != 0))) else ((decide (x_2.Seg < (-1))) || ((decide (x_2.Seg ≥ (((k_1.Segments).length : Int)))) || ((decide (x_2.Lo < (-288230376151711744))) || ((decide (x_2.Lo > x_2.Hi)) || (decide (x_2.Hi > 288230376151711744)))))) then some 230 else
 some 0
def M146 (f_1 : TField) (world_2 : Int) (k_8 : Unit → Option (Bool)) : Nat → Int → Option (Bool)
  | 0, _ => none
  | n_6 + 1, i_5 =>
    bif decide (i_5 < (((f_1.Runners).length : Int))) then
     bif decide (world_2 < 0) then some false else
     (idx f_1.Runners i_5).bind fun x_11 =>
     bif decide (world_2 ≥ (((x_11.Worlds).length : Int))) then some false else
     (idx f_1.Runners i_5).bind fun x_13 =>
     (idx x_13.Worlds world_2).bind fun x_14 =>
     bif (((x_14).length : Int)) == 0 then some false else
     (M146 f_1 world_2 k_8 n_6) ((w64 (i_5 + 1)))
    else
    k_8 ()
def M147 (_ : Unit) : Option (Bool) :=
 some true
def M148 (f_1 : TField) (world_2 : Int) : Option (Bool) :=
 M146 f_1 world_2 M147 (((((f_1.Runners).length : Int)) - 0 : Int).toNat + 1) 0
def M149 (f_1 : TField) (k_7 : Unit → Option (Bool)) : Nat → Int → Option (Bool)
  | 0, _ => none
  | n_5 + 1, w_4 =>
    bif decide (w_4 ≤ (((f_1.Pairs).length : Int))) then
     (M148 f_1 w_4).bind fun r_9 =>
     bif r_9 then some true else
     (M149 f_1 k_7 n_5) ((w64 (w_4 + 1)))
    else
    k_7 ()
def M150 (_ : Unit) : Option (Bool) :=
 some false
def M151 (f_1 : TField) : Option (Bool) :=
 M149 f_1 M150 (((((f_1.Pairs).length : Int)) + 1 - 0 : Int).toNat + 1) 0
def M152 (f_1 : TField) (k_15 : Unit → Option (Int)) : Nat → Int → Option (Int)
  | 0, _ => none
  | n_13 + 1, i_12 =>
    bif decide (i_12 < (((f_1.Pairs).length : Int))) then
     (idx f_1.Pairs i_12).bind fun x_17 =>
     bif decide (x_17.A < 1) then some 240 else
     bif decide (x_17.A ≥ x_17.B) then some 240 else
     bif decide (x_17.B > 9999) then some 240 else
     Option.bind (
      bif decide (i_12 > 0) then
       (idx f_1.Pairs (w64 (i_12 - 1))).bind fun x_24 =>
       bif decide (x_24.A > x_17.A) then some true else
       (idx f_1.Pairs (w64 (i_12 - 1))).bind fun x_26 =>
       bif x_26.A == x_17.A then
        (idx f_1.Pairs (w64 (i_12 - 1))).bind fun x_28 =>
        some (decide (x_28.B ≥ x_17.B))
       else
       some false
      else
      some false
     ) fun v_21 =>
     bif v_21 then some 240 else
     (M152 f_1 k_15 n_13) ((w64 (i_12 + 1)))
    else
    k_15 ()
def M153 (f_1 : TField) (x_36 : TRunner) (w_51 : Int) (k_60 : Unit → Option (Int)) : Nat → Int → Option (Int)
  | 0, _ => none
  | n_58 + 1, n_57 =>
    (idx x_36.Worlds w_51).bind fun x_61 =>
    bif decide (n_57 < (((x_61).length : Int))) then
     (idx x_36.Worlds w_51).bind fun x_63 =>
     (idx x_63 n_57).bind fun x_64 =>
     (M145 f_1.Clocks x_64).bind fun r_65 =>
     bif r_65 != 0 then some 240 else
     (M153 f_1 x_36 w_51 k_60 n_58) ((w64 (n_57 + 1)))
    else
    k_60 ()
def M154 (w_51 : Int) (nx_53 : Int → Option (Int)) (_ : Unit) : Option (Int) :=
 nx_53 ((w64 (w_51 + 1)))
def M155 (f_1 : TField) (x_36 : TRunner) (k_54 : Unit → Option (Int)) : Nat → Int → Option (Int)
  | 0, _ => none
  | n_52 + 1, w_51 =>
    bif decide (w_51 < (((x_36.Worlds).length : Int))) then M153 f_1 x_36 w_51 (M154 w_51 (M155 f_1 x_36 k_54 n_52)) ((((((Option.getD (idx x_36.Worlds w_51) default)).length : Int)) - 0 : Int).toNat + 1) 0 else
    k_54 ()
def M156 (i_31 : Int) (nx_33 : Int → Option (Int)) (_ : Unit) : Option (Int) :=
 nx_33 ((w64 (i_31 + 1)))
def M157 (f_1 : TField) (k_34 : Unit → Option (Int)) : Nat → Int → Option (Int)
  | 0, _ => none
  | n_32 + 1, i_31 =>
    bif decide (i_31 < (((f_1.Runners).length : Int))) then
     (idx f_1.Runners i_31).bind fun x_36 =>
     Option.bind (
      (M144 x_36.Bib).bind fun r_39 =>
      bif !r_39 then some true else
      bif decide (i_31 > 0) then
       (idx f_1.Runners (w64 (i_31 - 1))).bind fun x_43 =>
       bif decide (x_43.Bib ≥ x_36.Bib) then some true else
       (idx f_1.Runners 0).bind fun x_45 =>
       bif (((x_36.Keys).length : Int)) != (((x_45.Keys).length : Int)) then some true else
       some ((((x_36.Worlds).length : Int)) != (w64 ((((f_1.Pairs).length : Int)) + 1)))
      else
      (idx f_1.Runners 0).bind fun x_47 =>
      bif (((x_36.Keys).length : Int)) != (((x_47.Keys).length : Int)) then some true else
      some ((((x_36.Worlds).length : Int)) != (w64 ((((f_1.Pairs).length : Int)) + 1)))
     ) fun v_37 =>
     bif v_37 then some 240 else
     M155 f_1 x_36 (M156 i_31 (M157 f_1 k_34 n_32)) (((((x_36.Worlds).length : Int)) - 0 : Int).toNat + 1) 0
    else
    k_34 ()
def M158 (f_1 : TField) (_ : Unit) : Option (Int) :=
 (M151 f_1).bind fun r_68 =>
 bif !r_68 then some 240 else
 some 0
def M159 (f_1 : TField) (_ : Unit) : Option (Int) :=
 M157 f_1 (M158 f_1) (((((f_1.Runners).length : Int)) - 0 : Int).toNat + 1) 0
def M160 (f_1 : TField) : Option (Int) :=
 Option.bind (
  (M142 f_1.Clocks).bind fun r_5 =>
  bif r_5 != 0 then some true else
  bif decide ((((f_1.Pairs).length : Int)) > 16) then some true else
  bif decide ((((f_1.Runners).length : Int)) < 1) then some true else
  some (decide ((((f_1.Runners).length : Int)) > 4000))
 ) fun v_3 =>
 bif v_3 then some 240 else
 M152 f_1 (M159 f_1) (((((f_1.Pairs).length : Int)) - 0 : Int).toNat + 1) 0
def M161 (f_1 : TField) (bib_2 : Int) (k_9 : Unit → Option (Int × Bool)) : Nat → Int → Option (Int × Bool)
  | 0, _ => none
  | n_7 + 1, i_6 =>
    bif decide (i_6 < (((f_1.Runners).length : Int))) then
     (idx f_1.Runners i_6).bind fun x_11 =>
     bif x_11.Bib == bib_2 then some (i_6, true) else
     (M161 f_1 bib_2 k_9 n_7) ((w64 (i_6 + 1)))
    else
    k_9 ()
def M162 (_ : Unit) : Option (Int × Bool) :=
 some (0, false)
def M163 (f_1 : TField) (bib_2 : Int) : Option (Int × Bool) :=
 M161 f_1 bib_2 M162 (((((f_1.Runners).length : Int)) - 0 : Int).toNat + 1) 0
def M164 (f_1 : TField) (world_2 : Int) (k_10 : Unit → Option (Bool)) : Nat → Int → Option (Bool)
  | 0, _ => none
  | n_8 + 1, i_7 =>
    bif decide (i_7 < (((f_1.Runners).length : Int))) then
     (idx f_1.Runners i_7).bind fun x_12 =>
     bif decide (world_2 ≥ (((x_12.Worlds).length : Int))) then some false else
     (idx f_1.Runners i_7).bind fun x_14 =>
     (idx x_14.Worlds world_2).bind fun x_15 =>
     bif (((x_15).length : Int)) == 0 then some false else
     (M164 f_1 world_2 k_10 n_8) ((w64 (i_7 + 1)))
    else
    k_10 ()
def M165 (_ : Unit) : Option (Bool) :=
 some true
def M166 (f_1 : TField) (world_2 : Int) : Option (Bool) :=
 bif decide (world_2 < 0) then some false else
 bif decide (world_2 > (((f_1.Pairs).length : Int))) then some false else
 M164 f_1 world_2 M165 (((((f_1.Runners).length : Int)) - 0 : Int).toNat + 1) 0
def M167 (l_9 : List Int) (k_14 : Unit → Option (Bool)) : Nat → Int → Option (Bool)
  | 0, _ => none
  | n_12 + 1, i_11 =>
    bif decide (i_11 < (((l_9).length : Int))) then
     (idx l_9 i_11).bind fun x_16 =>
     bif decide (x_16 < (-1125899906842624)) then some false else
     (idx l_9 i_11).bind fun x_18 =>
     bif decide (x_18 > 1125899906842624) then some false else
     (M167 l_9 k_14 n_12) ((w64 (i_11 + 1)))
    else
    k_14 ()
def M168 (f_1 : TField) (l_9 : List Int) (i_21 : Int) (k_30 : Unit → Option (Bool)) : Nat → Int → Option (Bool)
  | 0, _ => none
  | n_28 + 1, k_27 =>
    bif decide (k_27 < (((l_9).length : Int))) then
     (idx l_9 k_27).bind fun x_32 =>
     (idx l_9 i_21).bind fun x_33 =>
     (idx f_1.Clocks.Far i_21).bind fun x_34 =>
     (idx x_34 k_27).bind fun x_35 =>
     bif decide ((w64 (x_32 - x_33)) > x_35) then some false else
     (M168 f_1 l_9 i_21 k_30 n_28) ((w64 (k_27 + 1)))
    else
    k_30 ()
def M169 (i_21 : Int) (nx_23 : Int → Option (Bool)) (_ : Unit) : Option (Bool) :=
 nx_23 ((w64 (i_21 + 1)))
def M170 (f_1 : TField) (l_9 : List Int) (k_24 : Unit → Option (Bool)) : Nat → Int → Option (Bool)
  | 0, _ => none
  | n_22 + 1, i_21 =>
    bif decide (i_21 < (((l_9).length : Int))) then M168 f_1 l_9 i_21 (M169 i_21 (M170 f_1 l_9 k_24 n_22)) (((((l_9).length : Int)) - 0 : Int).toNat + 1) 0 else
    k_24 ()
def M171 (f_1 : TField) (h_2 : THistory) (k_41 : Unit → Option (Bool)) : Nat → Int → Option (Bool)
  | 0, _ => none
  | n_39 + 1, i_38 =>
    bif decide (i_38 < (((h_2.Choices).length : Int))) then
     (idx f_1.Runners i_38).bind fun x_43 =>
     (idx x_43.Worlds h_2.World).bind fun x_44 =>
     (idx h_2.Choices i_38).bind fun x_45 =>
     bif decide (x_45.Outcome < 0) then some false else
     bif decide (x_45.Outcome ≥ (((x_44).length : Int))) then some false else
     (idx x_44 x_45.Outcome).bind fun x_48 =>
     bif bif x_48.Out then (x_45.X != 0) else ((decide (x_45.X < x_48.Lo)) || (decide (x_45.X > x_48.Hi))) then some false else
     (M171 f_1 h_2 k_41 n_39) ((w64 (i_38 + 1)))
    else
    k_41 ()
def M172 (_ : Unit) : Option (Bool) :=
 some true
def M173 (f_1 : TField) (h_2 : THistory) (_ : Unit) : Option (Bool) :=
 M171 f_1 h_2 M172 (((((h_2.Choices).length : Int)) - 0 : Int).toNat + 1) 0
def M174 (f_1 : TField) (h_2 : THistory) (l_9 : List Int) (_ : Unit) : Option (Bool) :=
 M170 f_1 l_9 (M173 f_1 h_2) (((((l_9).length : Int)) - 0 : Int).toNat + 1) 0
def M175 (f_1 : TField) (h_2 : THistory) : Option (Bool) :=
 (M166 f_1 h_2.World).bind fun r_4 =>
 bif !r_4 then some false else
 bif (((h_2.Offsets).length : Int)) != (((f_1.Clocks.Segments).length : Int)) then some false else
 bif (((h_2.Choices).length : Int)) != (((f_1.Runners).length : Int)) then some false else
 (app 8 (([0] : List Int)) h_2.Offsets).bind fun l_9 =>
 M167 l_9 (M174 f_1 h_2 l_9) (((((l_9).length : Int)) - 0 : Int).toNat + 1) 0
def M176 (f_1 : TField) (h_2 : THistory) : Option (Int) :=
 (M160 f_1).bind fun r_4 =>
 bif r_4 != 0 then some 240 else
 (M175 f_1 h_2).bind fun r_7 =>
 bif !r_7 then some 260 else
 some 0
def M177 (f_1 : TField) (h_2 : THistory) (runner_3 : Int) : Option (TOutcome) :=
 (idx f_1.Runners runner_3).bind fun x_5 =>
 (idx x_5.Worlds h_2.World).bind fun x_6 =>
 (idx h_2.Choices runner_3).bind fun x_7 =>
 (idx x_6 x_7.Outcome).bind fun x_8 =>
 some x_8
def M178 (h_1 : THistory) (x_2 : TOutcome) : Option (Int) :=
 bif decide (x_2.Seg < 0) then some 0 else
 (idx h_1.Offsets x_2.Seg).bind fun x_5 =>
 some x_5
def M179 (f_1 : TField) (h_2 : THistory) (runner_3 : Int) : Option (Int × Bool) :=
 (M177 f_1 h_2 runner_3).bind fun r_6 =>
 bif r_6.Out then some (0, false) else
 (idx h_2.Choices runner_3).bind fun x_9 =>
 (M178 h_2 r_6).bind fun r_10 =>
 some ((w64 (x_9.X + r_10)), true)
def M180 (a_1 : List Int) (b_2 : List Int) (k_8 : Unit → Option (Bool)) : Nat → Int → Option (Bool)
  | 0, _ => none
  | n_6 + 1, i_5 =>
    bif decide (i_5 < (((a_1).length : Int))) then
     bif decide (i_5 < (((b_2).length : Int))) then
      (idx a_1 i_5).bind fun x_11 =>
      (idx b_2 i_5).bind fun x_12 =>
      bif x_11 != x_12 then
       (idx a_1 i_5).bind fun x_14 =>
       (idx b_2 i_5).bind fun x_15 =>
       some (decide (x_14 < x_15))
      else
      (M180 a_1 b_2 k_8 n_6) ((w64 (i_5 + 1)))
     else
     k_8 ()
    else
    k_8 ()
def M181 (a_1 : List Int) (b_2 : List Int) (_ : Unit) : Option (Bool) :=
 some (decide ((((a_1).length : Int)) < (((b_2).length : Int))))
def M182 (a_1 : List Int) (b_2 : List Int) : Option (Bool) :=
 M180 a_1 b_2 (M181 a_1 b_2) (((((a_1).length : Int)) - 0 : Int).toNat + 1) 0
def M183 (f_1 : TField) (h_2 : THistory) (a_3 : Int) (b_4 : Int) : Option (Bool) :=
 (M179 f_1 h_2 a_3).bind fun (r_6, r_7) =>
 (M179 f_1 h_2 b_4).bind fun (r_9, r_10) =>
 bif !r_7 then some r_7 else
 bif !r_10 then some r_7 else
 bif decide (r_6 < r_9) then some true else
 bif r_6 == r_9 then
  (idx f_1.Runners a_3).bind fun x_16 =>
  (idx f_1.Runners b_4).bind fun x_17 =>
  (M182 x_16.Keys x_17.Keys).bind fun r_18 =>
  some r_18
 else
 some false
def M184 (f_1 : TField) (h_2 : THistory) (runner_3 : Int) : Nat → Int → Int → Option (Int)
  | 0, _, _ => none
  | n_13 + 1, n_11, i_12 =>
    bif decide (i_12 < (((f_1.Runners).length : Int))) then
     (M183 f_1 h_2 i_12 runner_3).bind fun r_18 =>
     bif r_18 then (M184 f_1 h_2 runner_3 n_13) ((w64 (n_11 + 1))) ((w64 (i_12 + 1))) else
     (M184 f_1 h_2 runner_3 n_13) n_11 ((w64 (i_12 + 1)))
    else
    some n_11
def M185 (f_1 : TField) (h_2 : THistory) (runner_3 : Int) : Option (Int) :=
 (M179 f_1 h_2 runner_3).bind fun (r_5, r_6) =>
 bif !r_6 then some 0 else
 (M184 f_1 h_2 runner_3 (((((f_1.Runners).length : Int)) - 0 : Int).toNat + 1) 1 0).bind fun n_14 =>
 some n_14
def M186 (f_1 : TField) (r_2 : TRank) (p_3 : TProof) : Option (Int) :=
 (M160 f_1).bind fun r_5 =>
 bif r_5 != 0 then some 240 else
 (M163 f_1 r_2.Bib).bind fun (r_8, r_9) =>
 Option.bind (
  bif r_2.Kind != 2 then some true else
  bif p_3.Bib != r_2.Bib then some true else
  bif !r_9 then some true else
  (M176 f_1 p_3.A).bind fun r_16 =>
  bif r_16 != 0 then some true else
  (M176 f_1 p_3.B).bind fun r_19 =>
  some (r_19 != 0)
 ) fun v_11 =>
 bif v_11 then some 270 else
 (M185 f_1 p_3.A r_8).bind fun r_22 =>
 (M185 f_1 p_3.B r_8).bind fun r_24 =>
 bif r_22 != r_2.Lo then some 270 else
 bif decide (r_22 < 1) then some 270 else
 bif bif (decide (r_2.Lo < r_2.Hi)) then ((r_24 == r_2.Hi) || ((r_2.Lo == r_2.Hi) && ((r_24 == 0) && r_2.Out))) else ((r_2.Lo == r_2.Hi) && ((r_24 == 0) && r_2.Out)) then some 0 else
 some 270
def M187 (r_1 : TRunner) (c_2 : Int) : Option (Bool) :=
 some (r_1.Bib == c_2)
def M188 (s_1 : List TRunner) (c_2 : Int) (k_8 : Unit → Option (Int)) : Nat → Int → Option (Int)
  | 0, _ => none
  | n_6 + 1, v_5 =>
    bif decide (v_5 < (((s_1).length : Int))) then
     (idx s_1 v_5).bind fun x_10 =>
     (M187 x_10 c_2).bind fun r_11 =>
     bif r_11 then some v_5 else
     (M188 s_1 c_2 k_8 n_6) ((w64 (v_5 + 1)))
    else
    k_8 ()
def M189 (_ : Unit) : Option (Int) :=
 some (-1)
def M190 (s_1 : List TRunner) (c_2 : Int) : Option (Int) :=
 M188 s_1 c_2 M189 (((((s_1).length : Int)) - 0 : Int).toNat + 1) 0
def M191 (f_1 : TField) (bib_2 : Int) : Option (Int × Bool) :=
 (M190 f_1.Runners bib_2).bind fun r_5 =>
 some ((maxG r_5 0), (decide (r_5 ≥ 0)))
def M192 (r_1 : TRunner) (c_2 : Int) : Option (Bool) :=
 (idx r_1.Worlds c_2).bind fun x_4 =>
 some ((((x_4).length : Int)) == 0)
def M193 (s_1 : List TRunner) (c_2 : Int) (k_8 : Unit → Option (Int)) : Nat → Int → Option (Int)
  | 0, _ => none
  | n_6 + 1, v_5 =>
    bif decide (v_5 < (((s_1).length : Int))) then
     (idx s_1 v_5).bind fun x_10 =>
     (M192 x_10 c_2).bind fun r_11 =>
     bif r_11 then some v_5 else
     (M193 s_1 c_2 k_8 n_6) ((w64 (v_5 + 1)))
    else
    k_8 ()
def M194 (_ : Unit) : Option (Int) :=
 some (-1)
def M195 (s_1 : List TRunner) (c_2 : Int) : Option (Int) :=
 M193 s_1 c_2 M194 (((((s_1).length : Int)) - 0 : Int).toNat + 1) 0
def M196 (s_1 : List TRunner) (c_2 : Int) : Option (Bool) :=
 (M195 s_1 c_2).bind fun r_4 =>
 some (decide (r_4 ≥ 0))
def M197 (f_1 : TField) (world_2 : Int) : Option (Bool) :=
 (M196 f_1.Runners world_2).bind fun r_4 =>
 some (!r_4)
def M198 (n_1 : Int) : Option (Bool) :=
 bif decide (n_1 < (-2199023255552)) then some true else
 some (decide (n_1 > 2199023255552))
def M199 (s_1 : List Int) (k_7 : Unit → Option (Int)) : Nat → Int → Option (Int)
  | 0, _ => none
  | n_5 + 1, v_4 =>
    bif decide (v_4 < (((s_1).length : Int))) then
     (idx s_1 v_4).bind fun x_9 =>
     (M198 x_9).bind fun r_10 =>
     bif r_10 then some v_4 else
     (M199 s_1 k_7 n_5) ((w64 (v_4 + 1)))
    else
    k_7 ()
def M200 (_ : Unit) : Option (Int) :=
 some (-1)
def M201 (s_1 : List Int) : Option (Int) :=
 M199 s_1 M200 (((((s_1).length : Int)) - 0 : Int).toNat + 1) 0
def M202 (s_1 : List Int) : Option (Bool) :=
 (M201 s_1).bind fun r_3 =>
 some (decide (r_3 ≥ 0))
def M203 (l_4 : List Int) (v_9 : Int) (x_14 : List Int) (k_19 : Unit → Option (Bool)) : Nat → Int → Option (Bool)
  | 0, _ => none
  | n_17 + 1, v_16 =>
    bif decide (v_16 < (((x_14).length : Int))) then
     (idx x_14 v_16).bind fun x_21 =>
     (idx l_4 v_16).bind fun x_22 =>
     (idx l_4 v_9).bind fun x_23 =>
     bif decide ((w64 (x_22 - x_23)) > x_21) then some false else
     (M203 l_4 v_9 x_14 k_19 n_17) ((w64 (v_16 + 1)))
    else
    k_19 ()
def M204 (v_9 : Int) (nx_11 : Int → Option (Bool)) (_ : Unit) : Option (Bool) :=
 nx_11 ((w64 (v_9 + 1)))
def M205 (k_1 : TClocks) (l_4 : List Int) (k_12 : Unit → Option (Bool)) : Nat → Int → Option (Bool)
  | 0, _ => none
  | n_10 + 1, v_9 =>
    bif decide (v_9 < (((k_1.Far).length : Int))) then
     (idx k_1.Far v_9).bind fun x_14 =>
     M203 l_4 v_9 x_14 (M204 v_9 (M205 k_1 l_4 k_12 n_10)) (((((x_14).length : Int)) - 0 : Int).toNat + 1) 0
    else
    k_12 ()
def M206 (_ : Unit) : Option (Bool) :=
 some true
def M207 (k_1 : TClocks) (offsets_2 : List Int) : Option (Bool) :=
 (app 8 (([0] : List Int)) offsets_2).bind fun l_4 =>
 (M202 l_4).bind fun r_5 =>
 bif r_5 then some false else
 M205 k_1 l_4 M206 (((((k_1.Far).length : Int)) - 0 : Int).toNat + 1) 0
def M208 (v_1 : Thistory_view) (runner_2 : Int) : Option (List TOutcome) :=
 (idx v_1.f.Runners runner_2).bind fun x_4 =>
 (idx x_4.Worlds v_1.h.World).bind fun x_5 =>
 some x_5
def M209 (v_1 : Thistory_view) (runner_2 : Int) : Option (TOutcome) :=
 (M208 v_1 runner_2).bind fun r_4 =>
 (idx v_1.h.Choices runner_2).bind fun x_6 =>
 (idx r_4 x_6.Outcome).bind fun x_7 =>
 some x_7
def M210 (f_1 : TField) (h_2 : THistory) (k_24 : Unit → Option (Thistory_view × Int)) : Nat → Int → Option (Thistory_view × Int)
  | 0, _ => none
  | n_22 + 1, v_21 =>
    bif decide (v_21 < (((h_2.Choices).length : Int))) then
     (idx h_2.Choices v_21).bind fun x_26 =>
     bif decide (x_26.Outcome < 0) then some (({ f := f_1, h := h_2 } : Thistory_view), 260) else
     (M208 ({ f := f_1, h := h_2 } : Thistory_view) v_21).bind fun r_28 =>
     bif decide (x_26.Outcome ≥ (((r_28).length : Int))) then some (({ f := f_1, h := h_2 } : Thistory_view), 260) else
     (M209 ({ f := f_1, h := h_2 } : Thistory_view) v_21).bind fun r_31 =>
     bif r_31.Out then
      bif decide (x_26.X < 0) then some (({ f := f_1, h := h_2 } : Thistory_view), 260) else
      bif decide (x_26.X > 0) then some (({ f := f_1, h := h_2 } : Thistory_view), 260) else
      (M210 f_1 h_2 k_24 n_22) ((w64 (v_21 + 1)))
     else
     bif decide (x_26.X < r_31.Lo) then some (({ f := f_1, h := h_2 } : Thistory_view), 260) else
     bif decide (x_26.X > r_31.Hi) then some (({ f := f_1, h := h_2 } : Thistory_view), 260) else
     (M210 f_1 h_2 k_24 n_22) ((w64 (v_21 + 1)))
    else
    k_24 ()
def M211 (f_1 : TField) (h_2 : THistory) (_ : Unit) : Option (Thistory_view × Int) :=
 some (({ f := f_1, h := h_2 } : Thistory_view), 0)
def M212 (f_1 : TField) (h_2 : THistory) : Option (Thistory_view × Int) :=
 (M46 f_1).bind fun r_5 =>
 bif r_5 != 0 then some (({ f := ({ Clocks := ({ Segments := (([] : List TSegment)), Far := (([] : List (List Int))) } : TClocks), Pairs := (([] : List TPair)), Runners := (([] : List TRunner)) } : TField), h := ({ World := 0, Offsets := (([] : List Int)), Choices := (([] : List TChoice)) } : THistory) } : Thistory_view), 240) else
 Option.bind (
  bif decide (h_2.World < 0) then some true else
  bif decide (h_2.World > (((f_1.Pairs).length : Int))) then some true else
  (M197 f_1 h_2.World).bind fun r_12 =>
  bif !r_12 then some true else
  bif (((h_2.Offsets).length : Int)) != (((f_1.Clocks.Segments).length : Int)) then some true else
  bif (((h_2.Choices).length : Int)) != (((f_1.Runners).length : Int)) then some true else
  (M207 f_1.Clocks h_2.Offsets).bind fun r_17 =>
  some (!r_17)
 ) fun v_8 =>
 bif v_8 then some (({ f := f_1, h := h_2 } : Thistory_view), 260) else
 M210 f_1 h_2 (M211 f_1 h_2) (((((h_2.Choices).length : Int)) - 0 : Int).toNat + 1) 0
def M213 (f_1 : TField) (h_2 : THistory) (runner_3 : Int) : Option (Thistory_view × Int) :=
 (M212 f_1 h_2).bind fun (r_6, r_7) =>
 bif r_7 == 0 then
  bif decide (runner_3 < 0) then some (r_6, 250) else
  bif decide (runner_3 ≥ (((f_1.Runners).length : Int))) then some (r_6, 250) else
  some (r_6, r_7)
 else
 some (r_6, r_7)
def M214 (v_1 : Thistory_view) (runner_2 : Int) : Option (Int × Bool) :=
 (M209 v_1 runner_2).bind fun r_5 =>
 bif r_5.Out then some (0, false) else
 (idx v_1.h.Choices runner_2).bind fun x_8 =>
 bif decide (r_5.Seg ≥ 0) then
  (idx v_1.h.Offsets r_5.Seg).bind fun x_10 =>
  some ((w64 (x_8.X + x_10)), true)
 else
 some (x_8.X, true)
def M215 (v_1 : Thistory_view) : Nat → Int → (List Thistory_pair_int_int) → Option (List Thistory_pair_int_int)
  | 0, _, _ => none
  | n_7 + 1, v_5, l_6 =>
    bif decide (v_5 < (((v_1.f.Runners).length : Int))) then
     (M214 v_1 v_5).bind fun (r_12, r_13) =>
     bif r_13 then
      (app 16 l_6 (([({ first := v_5, second := r_12 } : Thistory_pair_int_int)] : List Thistory_pair_int_int))).bind fun l_16 =>
      (M215 v_1 n_7) ((w64 (v_5 + 1))) l_16
     else
     (M215 v_1 n_7) ((w64 (v_5 + 1))) l_6
    else
    some l_6
def M216 (v_1 : Thistory_view) : Option (List Thistory_pair_int_int) :=
 (M215 v_1 (((((v_1.f.Runners).length : Int)) - 0 : Int).toNat + 1) 0 ((([] : List Thistory_pair_int_int)))).bind fun l_8 =>
 some l_8
def M217 (v_1 : Thistory_view) (a_2 : Thistory_pair_int_int) (b_3 : Thistory_pair_int_int) : Option (Int) :=
 (M4 a_2.second b_3.second).bind fun r_5 =>
 (idx v_1.f.Runners a_2.first).bind fun x_7 =>
 (idx v_1.f.Runners b_3.first).bind fun x_8 =>
 (M71 x_7.Keys x_8.Keys).bind fun r_9 =>
 (M7 ((([r_5, r_9] : List Int)))).bind fun r_11 =>
 some r_11
def M218 (runner_3 : Int) (r_6 : Thistory_view) (r_10 : Int) (r_14 : List Thistory_pair_int_int) : Nat → Int → Int → Option (Int)
  | 0, _, _ => none
  | n_20 + 1, n_18, v_19 =>
    bif decide (v_19 < (((r_14).length : Int))) then
     (idx r_14 v_19).bind fun x_25 =>
     (M217 r_6 x_25 ({ first := runner_3, second := r_10 } : Thistory_pair_int_int)).bind fun r_26 =>
     bif decide (r_26 < 0) then (M218 runner_3 r_6 r_10 r_14 n_20) ((w64 (n_18 + 1))) ((w64 (v_19 + 1))) else
     (M218 runner_3 r_6 r_10 r_14 n_20) n_18 ((w64 (v_19 + 1)))
    else
    some n_18
def M219 (f_1 : TField) (h_2 : THistory) (runner_3 : Int) : Option (Int × Int) :=
 (M213 f_1 h_2 runner_3).bind fun (r_6, r_7) =>
 bif r_7 != 0 then some (0, r_7) else
 (M214 r_6 runner_3).bind fun (r_10, r_11) =>
 bif !r_11 then some (0, 0) else
 (M216 r_6).bind fun r_14 =>
 (M218 runner_3 r_6 r_10 r_14 (((((r_14).length : Int)) - 0 : Int).toNat + 1) 0 0).bind fun n_21 =>
 some ((w64 (n_21 + 1)), 0)
def M220 (f_1 : TField) (r_2 : TRank) (p_3 : TProof) : Option (Int) :=
 (M46 f_1).bind fun r_5 =>
 bif r_5 != 0 then some 240 else
 (M191 f_1 r_2.Bib).bind fun (r_8, r_9) =>
 bif r_2.Kind != 2 then some 270 else
 bif p_3.Bib != r_2.Bib then some 270 else
 bif !r_9 then some 270 else
 (M219 f_1 p_3.A r_8).bind fun (r_14, r_15) =>
 bif r_15 != 0 then some 270 else
 (M219 f_1 p_3.B r_8).bind fun (r_18, r_19) =>
 bif r_19 != 0 then some 270 else
 bif r_2.Lo == r_2.Hi then
  bif (r_14 != r_2.Lo) || ((decide (r_14 < 1)) || ((decide (r_2.Lo > r_2.Hi)) || ((r_18 != 0) || (!r_2.Out)))) then some 270 else
  some 0
 else
 bif (r_14 != r_2.Lo) || ((decide (r_14 < 1)) || ((decide (r_2.Lo > r_2.Hi)) || ((r_18 != r_2.Hi) || ((r_2.Hi == 0) && (!r_2.Out))))) then some 270 else
 some 0
def M221 (a_1 : List Int) (b_2 : List Int) : Option (Int) :=
 (M71 a_1 b_2).bind fun r_4 =>
 some r_4
def M222 (d_1 : Twitness_duel) (difference_2 : Int) : Option (Bool) :=
 bif decide (difference_2 < 0) then some true else
 bif difference_2 == 0 then
  (M221 d_1.rival.Keys d_1.runner.Keys).bind fun r_6 =>
  some (decide (r_6 < 0))
 else
 some false
def M223 (d_1 : Twitness_duel) (y_2 : TOutcome) : Option (Bool) :=
 bif !y_2.Out then
  (idx d_1.far (w64 (d_1.x.Seg + 1))).bind fun x_5 =>
  (idx x_5 (w64 (y_2.Seg + 1))).bind fun x_6 =>
  (M222 d_1 ((w64 ((w64 (y_2.Hi - d_1.x.Lo)) + x_6)))).bind fun r_7 =>
  some r_7
 else
 some false
def M224 (y_1 : TOutcome) (c_2 : List (List Int)) (c_3 : Int) (c_4 : List Int) (c_5 : List (List TOutcome)) (c_6 : Int) (c_7 : List Int) (c_8 : List (List TOutcome)) (c_9 : Bool) (c_10 : Int) (c_11 : Int) (c_12 : Int) : Option (Bool) :=
 (M223 (({ far := c_2, rival := ({ Bib := c_3, Keys := c_4, Worlds := c_5 } : TRunner), runner := ({ Bib := c_6, Keys := c_7, Worlds := c_8 } : TRunner), x := ({ Out := c_9, Seg := c_10, Lo := c_11, Hi := c_12 } : TOutcome) } : Twitness_duel)) y_1).bind fun r_14 =>
 some (!r_14)
def M225 (s_1 : List TOutcome) (c_2 : List (List Int)) (c_3 : Int) (c_4 : List Int) (c_5 : List (List TOutcome)) (c_6 : Int) (c_7 : List Int) (c_8 : List (List TOutcome)) (c_9 : Bool) (c_10 : Int) (c_11 : Int) (c_12 : Int) (k_18 : Unit → Option (Int)) : Nat → Int → Option (Int)
  | 0, _ => none
  | n_16 + 1, v_15 =>
    bif decide (v_15 < (((s_1).length : Int))) then
     (idx s_1 v_15).bind fun x_20 =>
     (M224 x_20 c_2 c_3 c_4 c_5 c_6 c_7 c_8 c_9 c_10 c_11 c_12).bind fun r_21 =>
     bif r_21 then some v_15 else
     (M225 s_1 c_2 c_3 c_4 c_5 c_6 c_7 c_8 c_9 c_10 c_11 c_12 k_18 n_16) ((w64 (v_15 + 1)))
    else
    k_18 ()
def M226 (_ : Unit) : Option (Int) :=
 some (-1)
def M227 (s_1 : List TOutcome) (c_2 : List (List Int)) (c_3 : Int) (c_4 : List Int) (c_5 : List (List TOutcome)) (c_6 : Int) (c_7 : List Int) (c_8 : List (List TOutcome)) (c_9 : Bool) (c_10 : Int) (c_11 : Int) (c_12 : Int) : Option (Int) :=
 M225 s_1 c_2 c_3 c_4 c_5 c_6 c_7 c_8 c_9 c_10 c_11 c_12 M226 (((((s_1).length : Int)) - 0 : Int).toNat + 1) 0
def M228 (s_1 : List TOutcome) (c_2 : List (List Int)) (c_3 : Int) (c_4 : List Int) (c_5 : List (List TOutcome)) (c_6 : Int) (c_7 : List Int) (c_8 : List (List TOutcome)) (c_9 : Bool) (c_10 : Int) (c_11 : Int) (c_12 : Int) : Option (Bool) :=
 (M227 s_1 c_2 c_3 c_4 c_5 c_6 c_7 c_8 c_9 c_10 c_11 c_12).bind fun r_14 =>
 some (decide (r_14 ≥ 0))
def M229 (d_1 : Twitness_duel) (y_2 : TOutcome) : Option (Bool) :=
 bif !y_2.Out then
  (idx d_1.far (w64 (y_2.Seg + 1))).bind fun x_5 =>
  (idx x_5 (w64 (d_1.x.Seg + 1))).bind fun x_6 =>
  (M222 d_1 ((w64 ((w64 (y_2.Lo - d_1.x.Hi)) - x_6)))).bind fun r_7 =>
  some r_7
 else
 some false
def M230 (s_1 : List TOutcome) (c_2 : Twitness_duel) (k_8 : Unit → Option (Int)) : Nat → Int → Option (Int)
  | 0, _ => none
  | n_6 + 1, v_5 =>
    bif decide (v_5 < (((s_1).length : Int))) then
     (idx s_1 v_5).bind fun x_10 =>
     (M229 c_2 x_10).bind fun r_11 =>
     bif r_11 then some v_5 else
     (M230 s_1 c_2 k_8 n_6) ((w64 (v_5 + 1)))
    else
    k_8 ()
def M231 (_ : Unit) : Option (Int) :=
 some (-1)
def M232 (s_1 : List TOutcome) (c_2 : Twitness_duel) : Option (Int) :=
 M230 s_1 c_2 M231 (((((s_1).length : Int)) - 0 : Int).toNat + 1) 0
def M233 (s_1 : List TOutcome) (c_2 : Twitness_duel) : Option (Bool) :=
 (M232 s_1 c_2).bind fun r_4 =>
 some (decide (r_4 ≥ 0))
def M234 (f_1 : TField) (r_7 : Int) (y_18 : Int) (x_28 : TOutcome) : Nat → Int → Int → Int → Option (Int × Int)
  | 0, _, _, _ => none
  | n_37 + 1, low_34, high_35, v_36 =>
    bif decide (v_36 < (((f_1.Runners).length : Int))) then
     Option.bind (
      (idx f_1.Runners v_36).bind fun x_46 =>
      bif v_36 == r_7 then some (low_34, high_35) else
      (idx f_1.Runners r_7).bind fun x_48 =>
      (idx x_46.Worlds y_18).bind fun x_49 =>
      (M228 x_49 f_1.Clocks.Far x_46.Bib x_46.Keys x_46.Worlds x_48.Bib x_48.Keys x_48.Worlds x_28.Out x_28.Seg x_28.Lo x_28.Hi).bind fun r_50 =>
      bif !r_50 then
       (M233 x_49 ({ far := f_1.Clocks.Far, rival := x_46, runner := x_48, x := x_28 } : Twitness_duel)).bind fun r_53 =>
       bif r_53 then some ((w64 (low_34 + 1)), (w64 (high_35 + 1))) else
       some ((w64 (low_34 + 1)), high_35)
      else
      (M233 x_49 ({ far := f_1.Clocks.Far, rival := x_46, runner := x_48, x := x_28 } : Twitness_duel)).bind fun r_56 =>
      bif r_56 then some (low_34, (w64 (high_35 + 1))) else
      some (low_34, high_35)
     ) fun (low_43, high_44) =>
     (M234 f_1 r_7 y_18 x_28 n_37) low_43 high_44 ((w64 (v_36 + 1)))
    else
    some (low_34, high_35)
def M235 (f_1 : TField) (r_2 : TRank) (r_7 : Int) (y_18 : Int) (x_21 : List TOutcome) (k_26 : Unit → Option ((Unit) ⊕ (Unit))) : Nat → Int → Option ((Unit) ⊕ (Unit))
  | 0, _ => none
  | n_24 + 1, v_23 =>
    bif decide (v_23 < (((x_21).length : Int))) then
     (idx x_21 v_23).bind fun x_28 =>
     bif x_28.Out then
      bif !r_2.Out then some (.inr ()) else
      (M235 f_1 r_2 r_7 y_18 x_21 k_26 n_24) ((w64 (v_23 + 1)))
     else
     (M234 f_1 r_7 y_18 x_28 (((((f_1.Runners).length : Int)) - 0 : Int).toNat + 1) 1 1 0).bind fun (low_38, high_39) =>
     bif decide (r_2.Lo > low_38) then some (.inr ()) else
     bif decide (r_2.Hi < high_39) then some (.inr ()) else
     (M235 f_1 r_2 r_7 y_18 x_21 k_26 n_24) ((w64 (v_23 + 1)))
    else
    k_26 ()
def M236 (_ : Unit) : Option ((Unit) ⊕ (Unit)) :=
 some (.inl ())
def M237 (f_1 : TField) (r_2 : TRank) (r_7 : Int) (y : Int) (s : Unit) : Option ((Unit) ⊕ (Unit)) :=
  match y, s with
  | y_18, _ =>
    (idx f_1.Runners r_7).bind fun x_20 =>
    (idx x_20.Worlds y_18).bind fun x_21 =>
    M235 f_1 r_2 r_7 y_18 x_21 M236 (((((x_21).length : Int)) - 0 : Int).toNat + 1) 0
def M238 (f_1 : TField) (r_2 : TRank) : Option (Int) :=
 (M46 f_1).bind fun r_4 =>
 bif r_4 != 0 then some 240 else
 (M191 f_1 r_2.Bib).bind fun (r_7, r_8) =>
 bif !r_8 then some 270 else
 (M102 f_1).bind fun (c_11, c_12, c_13, c_14) =>
 (M110 c_11 c_12 c_13 c_14).bind fun l_16 =>
 (foldE (M237 f_1 r_2 r_7) l_16 ()).bind fun q => match q with
 | .inl _ =>
  some 0
 | .inr _ =>
  some 270
def M239 (f_1 : TField) (h_2 : THistory) : Option (Int) :=
 (M212 f_1 h_2).bind fun (r_4, r_5) =>
 some r_5
def M240 (a_1 : Int) (c_3 : Thistory_view) : Nat → Int → (List Thistory_pair_int_int) → Option (List Thistory_pair_int_int)
  | 0, _, _ => none
  | n_19 + 1, j_17, l_18 =>
    bif decide (j_17 > a_1) then
     (idx l_18 j_17).bind fun x_24 =>
     (idx l_18 (w64 (j_17 - 1))).bind fun x_25 =>
     (M217 c_3 x_24 x_25).bind fun r_26 =>
     bif decide (r_26 < 0) then
      (idx l_18 (w64 (j_17 - 1))).bind fun x_29 =>
      (idx l_18 j_17).bind fun x_30 =>
      (idx l_18 j_17).bind fun x_31 =>
      (idx (List.set l_18 (Int.toNat j_17) x_29) (w64 (j_17 - 1))).bind fun x_32 =>
      (M240 a_1 c_3 n_19) ((w64 (j_17 - 1))) ((List.set (List.set l_18 (Int.toNat j_17) x_29) (Int.toNat (w64 (j_17 - 1))) x_30))
     else
     some l_18
    else
    some l_18
def M241 (a_1 : Int) (b_2 : Int) (c_3 : Thistory_view) : Nat → Int → (List Thistory_pair_int_int) → Option (List Thistory_pair_int_int)
  | 0, _, _ => none
  | n_10 + 1, i_8, l_9 =>
    bif decide (i_8 < b_2) then
     (M240 a_1 c_3 ((i_8 - a_1 : Int).toNat + 1) i_8 l_9).bind fun l_20 =>
     (M241 a_1 b_2 c_3 n_10) ((w64 (i_8 + 1))) l_20
    else
    some l_9
def M242 (a_1 : Int) (b_2 : Int) (c_3 : Thistory_view) (l_4 : List Thistory_pair_int_int) : Option (List Thistory_pair_int_int) :=
 (M241 a_1 b_2 c_3 ((b_2 - (w64 (a_1 + 1)) : Int).toNat + 1) ((w64 (a_1 + 1))) l_4).bind fun l_11 =>
 some l_11
def M243 (n_1 : Int) (c_2 : Thistory_view) : Nat → Int → Int → (List Thistory_pair_int_int) → Option (Int × List Thistory_pair_int_int)
  | 0, _, _, _ => none
  | n_11 + 1, a_8, b_9, l_10 =>
    bif decide (b_9 ≤ n_1) then
     (M242 a_8 b_9 c_2 l_10).bind fun l_17 =>
     (lenIs l_17 l_10).bind fun _ =>
     (M243 n_1 c_2 n_11) b_9 ((w64 (b_9 + 20))) l_17
    else
    some (a_8, l_10)
def M244 (n_1 : Int) : Nat → Option (Unit)
  | 0 => none
  | n_28 + 1 =>
    bif decide (40 ≤ n_1) then none else
    some ()
def M245 (n_1 : Int) : Nat → Option (Unit)
  | 0 => none
  | n_24 + 1 =>
    bif decide (20 < n_1) then
     (M244 n_1 ((n_1 + 1 - 40 : Int).toNat + 1)).bind fun _ =>
     none
    else
    some ()
def M246 (n_1 : Int) (c_2 : Thistory_view) (l_3 : List Thistory_pair_int_int) : Option (List Thistory_pair_int_int) :=
 (M243 n_1 c_2 ((n_1 + 1 - 20 : Int).toNat + 1) 0 20 l_3).bind fun (a_12, l_13) =>
 (M242 a_12 n_1 c_2 l_13).bind fun l_21 =>
 (lenIs l_21 l_13).bind fun _ =>
 (M245 n_1 ((n_1 - 20 : Int).toNat + 1)).bind fun _ =>
 some l_21
def M247 (c_1 : Thistory_view) (l_2 : List Thistory_pair_int_int) : Option (List Thistory_pair_int_int) :=
 (M246 ((((l_2).length : Int))) c_1 l_2).bind fun l_4 =>
 (lenIs l_4 l_2).bind fun _ =>
 some l_4
def M248 (r_5 : Thistory_view) : Nat → Int → (List Thistory_pair_int_int) → Option (List Thistory_pair_int_int)
  | 0, _, _ => none
  | n_13 + 1, v_11, l_12 =>
    bif decide (v_11 < (((r_5.f.Runners).length : Int))) then
     (M214 r_5 v_11).bind fun (r_18, r_19) =>
     bif r_19 then
      (app 16 l_12 (([({ first := v_11, second := r_18 } : Thistory_pair_int_int)] : List Thistory_pair_int_int))).bind fun l_22 =>
      (M248 r_5 n_13) ((w64 (v_11 + 1))) l_22
     else
     (M248 r_5 n_13) ((w64 (v_11 + 1))) l_12
    else
    some l_12
def M249 (l_24 : List Thistory_pair_int_int) : Nat → Int → (List Int) → Option (List Int)
  | 0, _, _ => none
  | n_31 + 1, v_29, l_30 =>
    bif decide (v_29 < (((l_24).length : Int))) then
     (idx l_24 v_29).bind fun x_36 =>
     (app 8 l_30 (([x_36.first] : List Int))).bind fun l_37 =>
     (M249 l_24 n_31) ((w64 (v_29 + 1))) l_37
    else
    some l_30
def M250 (f_1 : TField) (h_2 : THistory) : Option (List Int × Int) :=
 (M212 f_1 h_2).bind fun (r_5, r_6) =>
 bif r_6 != 0 then some ((([] : List Int)), r_6) else
 (M248 r_5 (((((r_5.f.Runners).length : Int)) - 0 : Int).toNat + 1) 0 ((([] : List Thistory_pair_int_int)))).bind fun l_14 =>
 (M247 r_5 l_14).bind fun l_24 =>
 (lenIs l_24 l_14).bind fun _ =>
 (M249 l_24 (((((l_24).length : Int)) - 0 : Int).toNat + 1) 0 ((([] : List Int)))).bind fun l_32 =>
 some (l_32, 0)
def M251 (s_1 : List Int) : Option (List Int) :=
 some s_1
def M252 (c_1 : List Int) (k_6 : Unit → Option (List Int)) : Nat → Int → Option (List Int)
  | 0, _ => none
  | n_4 + 1, v_3 =>
    bif decide (v_3 < (((c_1).length : Int))) then
     (idx c_1 v_3).bind fun x_8 =>
     Option.bind (
      (M252 c_1 k_6 n_4) ((w64 (v_3 + 1)))
     ) fun l => some (x_8 :: l)
    else
    k_6 ()
def M253 (_ : Unit) : Option (List Int) :=
 some []
def M254 (c_1 : List Int) : Option (List Int) :=
 M252 c_1 M253 (((((c_1).length : Int)) - 0 : Int).toNat + 1) 0
def M255 (x_1 : Int) : Option (Int) :=
  if 0 ≤ x_1 ∧ x_1 ≤ 18446744073709551615 then some (Lib.bitLen x_1.toNat : Int) else none
def M256 (x_1 : Int) (y_2 : Int) : Option (Bool) :=
 (M3 x_1).bind fun r_4 =>
 bif r_4 then
  (M3 y_2).bind fun r_7 =>
  bif !r_7 then some true else
  some (decide (x_1 < y_2))
 else
 some (decide (x_1 < y_2))
def M257 (a_1 : Int) : Nat → Int → (List Int) → Option (List Int)
  | 0, _, _ => none
  | n_18 + 1, j_16, l_17 =>
    bif decide (j_16 > a_1) then
     (idx l_17 j_16).bind fun x_23 =>
     (idx l_17 (w64 (j_16 - 1))).bind fun x_24 =>
     (M256 x_23 x_24).bind fun r_25 =>
     bif r_25 then
      (idx l_17 (w64 (j_16 - 1))).bind fun x_28 =>
      (idx l_17 j_16).bind fun x_29 =>
      (idx l_17 j_16).bind fun x_30 =>
      (idx (List.set l_17 (Int.toNat j_16) x_28) (w64 (j_16 - 1))).bind fun x_31 =>
      (M257 a_1 n_18) ((w64 (j_16 - 1))) ((List.set (List.set l_17 (Int.toNat j_16) x_28) (Int.toNat (w64 (j_16 - 1))) x_29))
     else
     some l_17
    else
    some l_17
def M258 (a_1 : Int) (b_2 : Int) : Nat → Int → (List Int) → Option (List Int)
  | 0, _, _ => none
  | n_9 + 1, i_7, l_8 =>
    bif decide (i_7 < b_2) then
     (M257 a_1 ((i_7 - a_1 : Int).toNat + 1) i_7 l_8).bind fun l_19 =>
     (M258 a_1 b_2 n_9) ((w64 (i_7 + 1))) l_19
    else
    some l_8
def M259 (a_1 : Int) (b_2 : Int) (l_3 : List Int) : Option (List Int) :=
 (M258 a_1 b_2 ((b_2 - (w64 (a_1 + 1)) : Int).toNat + 1) ((w64 (a_1 + 1))) l_3).bind fun l_10 =>
 some l_10
def M260 (a_1 : Int) (b_2 : Int) (limit_3 : Int) (l_4 : List Int) : Nat → Option (List Int)
  | 0 => none
  | n_6 + 1 =>
    bif decide ((w64 (b_2 - a_1)) ≤ 12) then
     (M259 a_1 b_2 l_4).bind fun l_10 =>
     (lenIs l_10 l_4).bind fun _ =>
     some l_10
    else
    bif limit_3 == 0 then none else
    none
def M261 (a_1 : Int) (b_2 : Int) (limit_3 : Int) (l_4 : List Int) : Option (List Int) :=
 M260 a_1 b_2 limit_3 l_4 ((12 + 1 - (w64 (b_2 - a_1)) : Int).toNat + 1)
def M262 (l_1 : List Int) : Option (List Int) :=
 (M255 ((IntKind.wrap .u64 (((l_1).length : Int))))).bind fun r_3 =>
 (M261 0 ((((l_1).length : Int))) r_3 l_1).bind fun l_5 =>
 (lenIs l_5 l_1).bind fun _ =>
 some l_5
def M263 (y : Int) (s : List Int) : Option (List Int) :=
  match y, s with
  | y_5, l_7 =>
    (app 8 l_7 (([y_5] : List Int))).bind fun l_9 =>
    some l_9
def M264 (c_1 : List Int) : Option (List Int) :=
 (M254 c_1).bind fun l_3 =>
 (foldO M263 l_3 ((([] : List Int)))).bind fun l_10 =>
 (M262 l_10).bind fun l_11 =>
 (lenIs l_11 l_10).bind fun _ =>
 some l_11
def M265 (s_1 : List Int) (s_2 : List Int) (k_9 : Unit → Option (Bool)) : Nat → Int → Option (Bool)
  | 0, _ => none
  | n_7 + 1, v_6 =>
    bif decide (v_6 < (((s_1).length : Int))) then
     (idx s_1 v_6).bind fun x_11 =>
     (idx s_2 v_6).bind fun x_12 =>
     bif x_11 != x_12 then some false else
     (M265 s_1 s_2 k_9 n_7) ((w64 (v_6 + 1)))
    else
    k_9 ()
def M266 (_ : Unit) : Option (Bool) :=
 some true
def M267 (s_1 : List Int) (s_2 : List Int) : Option (Bool) :=
 bif (((s_1).length : Int)) != (((s_2).length : Int)) then some false else
 M265 s_1 s_2 M266 (((((s_1).length : Int)) - 0 : Int).toNat + 1) 0
def M268 (f_1 : TField) (h_2 : THistory) (l_3 : List Int) (k_32 : Unit → Option (Int)) : Nat → Int → Int → Option (Int)
  | 0, _, _ => none
  | n_30 + 1, last_28, v_29 =>
    bif decide (v_29 < (((l_3).length : Int))) then
     (idx l_3 v_29).bind fun x_34 =>
     (M219 f_1 h_2 x_34).bind fun (r_35, r_36) =>
     bif decide (r_35 < last_28) then some 270 else
     (M268 f_1 h_2 l_3 k_32 n_30) r_35 ((w64 (v_29 + 1)))
    else
    k_32 ()
def M269 (_ : Unit) : Option (Int) :=
 some 0
def M270 (f_1 : TField) (h_2 : THistory) (l_3 : List Int) : Option (Int) :=
 (M46 f_1).bind fun r_5 =>
 bif r_5 != 0 then some 240 else
 (M239 f_1 h_2).bind fun r_8 =>
 bif r_8 != 0 then some 260 else
 (M250 f_1 h_2).bind fun (r_11, r_12) =>
 bif r_12 != 0 then some 260 else
 (M251 l_3).bind fun c_15 =>
 (M264 c_15).bind fun r_17 =>
 (M251 r_11).bind fun c_19 =>
 (M264 c_19).bind fun r_21 =>
 (M267 r_17 r_21).bind fun r_23 =>
 bif !r_23 then some 270 else
 M268 f_1 h_2 l_3 M269 (((((l_3).length : Int)) - 0 : Int).toNat + 1) 0 0
def M271 : Option (Bool) :=
 (M0).bind fun r_2 =>
 (M1 10 11).bind fun r_4 =>
 (M1 12 11).bind fun r_6 =>
 (M127 r_2 0).bind fun (r_8, r_9) =>
 (M0).bind fun r_11 =>
 (slcTo r_11.Runners 1).bind fun l_13 =>
 (M127 ({ Clocks := r_11.Clocks, Pairs := r_11.Pairs, Runners := l_13 } : TField) 0).bind fun (r_14, r_15) =>
 (M127 r_2 (-1)).bind fun (r_17, r_18) =>
 Option.bind (
  bif r_9 == 0 then
   (M186 r_2 ({ Bib := 3, Kind := 2, Lo := 1, Hi := 2, Out := false } : TRank) r_8).bind fun r_23 =>
   bif r_23 == 0 then
    (M220 r_2 ({ Bib := 3, Kind := 2, Lo := 1, Hi := 2, Out := false } : TRank) ({ Bib := 3, A := r_4, B := r_6 } : TProof)).bind fun r_26 =>
    bif r_26 == 0 then
     (M220 r_2 ({ Bib := 3, Kind := 2, Lo := 1, Hi := 1, Out := false } : TRank) ({ Bib := 3, A := r_4, B := r_6 } : TProof)).bind fun r_29 =>
     bif r_29 == 270 then
      bif r_15 == 270 then
       bif r_18 == 250 then
        (M238 r_2 ({ Bib := 3, Kind := 2, Lo := 1, Hi := 2, Out := false } : TRank)).bind fun r_34 =>
        bif r_34 == 0 then
         (M238 r_2 ({ Bib := 3, Kind := 2, Lo := 1, Hi := 1, Out := false } : TRank)).bind fun r_37 =>
         bif r_37 == 270 then
          (M1 11 11).bind fun r_40 =>
          (M270 r_2 r_40 ((([1, 0] : List Int)))).bind fun r_42 =>
          bif r_42 == 0 then
           (M1 10 11).bind fun r_45 =>
           (M270 r_2 r_45 ((([1, 0] : List Int)))).bind fun r_47 =>
           bif r_47 == 270 then
            (M1 10 11).bind fun r_50 =>
            (M270 r_2 r_50 ((([] : List Int)))).bind fun r_52 =>
            some (r_52 == 270)
           else
           some false
          else
          some false
         else
         some false
        else
        some false
       else
       some false
      else
      some false
     else
     some false
    else
    some false
   else
   some false
  else
  some false
 ) fun v_20 =>
 some v_20
def M272 (k_1 : TClocks) (k_9 : Unit → Option (Bool)) : Nat → Int → Option (Bool)
  | 0, _ => none
  | n_7 + 1, i_6 =>
    bif decide (i_6 < (((k_1.Far).length : Int))) then
     (idx k_1.Far i_6).bind fun x_11 =>
     bif decide ((((x_11).length : Int)) > 12) then some false else
     (M272 k_1 k_9 n_7) ((w64 (i_6 + 1)))
    else
    k_9 ()
def M273 (_ : Unit) : Option (Bool) :=
 some true
def M274 (k_1 : TClocks) : Option (Bool) :=
 bif decide ((((k_1.Segments).length : Int)) > 8) then some false else
 bif decide ((((k_1.Far).length : Int)) > 10) then some false else
 M272 k_1 M273 (((((k_1.Far).length : Int)) - 0 : Int).toNat + 1) 0
def M275 (x_17 : TRunner) : Nat → Int → Int → Option (Int)
  | 0, _, _ => none
  | n_24 + 1, n_22, w_23 =>
    bif decide (w_23 < (((x_17.Worlds).length : Int))) then
     (idx x_17.Worlds w_23).bind fun x_29 =>
     (M275 x_17 n_24) ((w64 (n_22 + (((x_29).length : Int))))) ((w64 (w_23 + 1)))
    else
    some n_22
def M276 (f_1 : TField) (k_15 : Int → Option (Bool)) : Nat → Int → Int → Option (Bool)
  | 0, _, _ => none
  | n_12 + 1, n_10, i_11 =>
    bif decide (i_11 < (((f_1.Runners).length : Int))) then
     (idx f_1.Runners i_11).bind fun x_17 =>
     bif decide ((((x_17.Keys).length : Int)) > 8) then some false else
     bif decide ((((x_17.Worlds).length : Int)) > 5) then some false else
     (M275 x_17 (((((x_17.Worlds).length : Int)) - 0 : Int).toNat + 1) n_10 0).bind fun n_25 =>
     (M276 f_1 k_15 n_12) n_25 ((w64 (i_11 + 1)))
    else
    k_15 n_10
def M277 (n_13 : Int) : Option (Bool) :=
 some (decide (n_13 ≤ 60))
def M278 (f_1 : TField) : Option (Bool) :=
 bif decide ((((f_1.Runners).length : Int)) > 6) then some false else
 bif decide ((((f_1.Pairs).length : Int)) > 3) then some false else
 (M274 f_1.Clocks).bind fun r_5 =>
 bif !r_5 then some false else
 M276 f_1 M277 (((((f_1.Runners).length : Int)) - 0 : Int).toNat + 1) 0 0
def M279 (f_1 : TField) (runner_2 : Int) : Option (Int) :=
 (M160 f_1).bind fun r_4 =>
 bif r_4 != 0 then some 240 else
 bif decide (runner_2 < 0) then some 250 else
 bif decide (runner_2 ≥ (((f_1.Runners).length : Int))) then some 250 else
 some 0
def M280 (f_1 : TField) (x_2 : TOutcome) (runner_3 : Int) (y_4 : TOutcome) (rival_5 : Int) : Option (Bool) :=
 bif y_4.Out then some true else
 (idx f_1.Clocks.Far (w64 (x_2.Seg + 1))).bind fun x_8 =>
 (idx x_8 (w64 (y_4.Seg + 1))).bind fun x_9 =>
 bif decide ((w64 ((w64 (y_4.Hi + x_9)) - x_2.Lo)) > 0) then some true else
 bif (w64 ((w64 (y_4.Hi + x_9)) - x_2.Lo)) == 0 then
  (idx f_1.Runners rival_5).bind fun x_12 =>
  (idx f_1.Runners runner_3).bind fun x_13 =>
  (M182 x_12.Keys x_13.Keys).bind fun r_14 =>
  some (!r_14)
 else
 some false
def M281 (f_1 : TField) (x_3 : TOutcome) (runner_4 : Int) (rival_5 : Int) (x_8 : List TOutcome) (k_13 : Unit → Option (Bool)) : Nat → Int → Option (Bool)
  | 0, _ => none
  | n_11 + 1, i_10 =>
    bif decide (i_10 < (((x_8).length : Int))) then
     (idx x_8 i_10).bind fun x_15 =>
     (M280 f_1 x_3 runner_4 x_15 rival_5).bind fun r_16 =>
     bif r_16 then some true else
     (M281 f_1 x_3 runner_4 rival_5 x_8 k_13 n_11) ((w64 (i_10 + 1)))
    else
    k_13 ()
def M282 (_ : Unit) : Option (Bool) :=
 some false
def M283 (f_1 : TField) (world_2 : Int) (x_3 : TOutcome) (runner_4 : Int) (rival_5 : Int) : Option (Bool) :=
 (idx f_1.Runners rival_5).bind fun x_7 =>
 (idx x_7.Worlds world_2).bind fun x_8 =>
 M281 f_1 x_3 runner_4 rival_5 x_8 M282 (((((x_8).length : Int)) - 0 : Int).toNat + 1) 0
def M284 (f_1 : TField) (x_2 : TOutcome) (runner_3 : Int) (y_4 : TOutcome) (rival_5 : Int) : Option (Bool) :=
 bif y_4.Out then some false else
 (idx f_1.Clocks.Far (w64 (y_4.Seg + 1))).bind fun x_8 =>
 (idx x_8 (w64 (x_2.Seg + 1))).bind fun x_9 =>
 bif decide ((w64 ((w64 (y_4.Lo - x_9)) - x_2.Hi)) < 0) then some true else
 bif (w64 ((w64 (y_4.Lo - x_9)) - x_2.Hi)) == 0 then
  (idx f_1.Runners rival_5).bind fun x_12 =>
  (idx f_1.Runners runner_3).bind fun x_13 =>
  (M182 x_12.Keys x_13.Keys).bind fun r_14 =>
  some r_14
 else
 some false
def M285 (f_1 : TField) (x_3 : TOutcome) (runner_4 : Int) (rival_5 : Int) (x_8 : List TOutcome) (k_13 : Unit → Option (Bool)) : Nat → Int → Option (Bool)
  | 0, _ => none
  | n_11 + 1, i_10 =>
    bif decide (i_10 < (((x_8).length : Int))) then
     (idx x_8 i_10).bind fun x_15 =>
     (M284 f_1 x_3 runner_4 x_15 rival_5).bind fun r_16 =>
     bif r_16 then some true else
     (M285 f_1 x_3 runner_4 rival_5 x_8 k_13 n_11) ((w64 (i_10 + 1)))
    else
    k_13 ()
def M286 (_ : Unit) : Option (Bool) :=
 some false
def M287 (f_1 : TField) (world_2 : Int) (x_3 : TOutcome) (runner_4 : Int) (rival_5 : Int) : Option (Bool) :=
 (idx f_1.Runners rival_5).bind fun x_7 =>
 (idx x_7.Worlds world_2).bind fun x_8 =>
 M285 f_1 x_3 runner_4 rival_5 x_8 M286 (((((x_8).length : Int)) - 0 : Int).toNat + 1) 0
def M288 (f_1 : TField) (world_2 : Int) (x_3 : TOutcome) (runner_4 : Int) : Nat → Int → Int → Int → Option (Int × Int)
  | 0, _, _, _ => none
  | n_13 + 1, best_10, worst_11, i_12 =>
    bif decide (i_12 < (((f_1.Runners).length : Int))) then
     Option.bind (
      bif i_12 == runner_4 then some (best_10, worst_11) else
      (M283 f_1 world_2 x_3 runner_4 i_12).bind fun r_23 =>
      bif !r_23 then
       (M287 f_1 world_2 x_3 runner_4 i_12).bind fun r_26 =>
       bif r_26 then some ((w64 (best_10 + 1)), (w64 (worst_11 + 1))) else
       some ((w64 (best_10 + 1)), worst_11)
      else
      (M287 f_1 world_2 x_3 runner_4 i_12).bind fun r_29 =>
      bif r_29 then some (best_10, (w64 (worst_11 + 1))) else
      some (best_10, worst_11)
     ) fun (best_19, worst_20) =>
     (M288 f_1 world_2 x_3 runner_4 n_13) best_19 worst_20 ((w64 (i_12 + 1)))
    else
    some (best_10, worst_11)
def M289 (f_1 : TField) (world_2 : Int) (x_3 : TOutcome) (runner_4 : Int) : Option (Int × Int) :=
 (M288 f_1 world_2 x_3 runner_4 (((((f_1.Runners).length : Int)) - 0 : Int).toNat + 1) 1 1 0).bind fun (best_14, worst_15) =>
 some (best_14, worst_15)
def M290 (f_1 : TField) (runner_2 : Int) (w_13 : Int) (x_25 : List TOutcome) : Nat → Int → Int → Int → Bool → Option (Int × Int × Bool)
  | 0, _, _, _, _ => none
  | n_34 + 1, i_30, v_31, v_32, v_33 =>
    bif decide (i_30 < (((x_25).length : Int))) then
     (M166 f_1 w_13).bind fun r_41 =>
     bif r_41 then
      Option.bind (
       (idx x_25 i_30).bind fun x_48 =>
       bif x_48.Out then some (v_31, v_32, true) else
       (idx x_25 i_30).bind fun x_50 =>
       (M289 f_1 w_13 x_50 runner_2).bind fun (r_51, r_52) =>
       bif v_31 == 0 then some (r_51, (maxG v_32 r_52), v_33) else
       bif decide (r_51 < v_31) then some (r_51, (maxG v_32 r_52), v_33) else
       some (v_31, (maxG v_32 r_52), v_33)
      ) fun (v_44, v_45, v_46) =>
      (M290 f_1 runner_2 w_13 x_25 n_34) ((w64 (i_30 + 1))) v_44 v_45 v_46
     else
     some (v_31, v_32, v_33)
    else
    some (v_31, v_32, v_33)
def M291 (f_1 : TField) (runner_2 : Int) : Nat → Int → Int → Int → Bool → Option (Int × Int × Bool)
  | 0, _, _, _, _ => none
  | n_17 + 1, w_13, v_14, v_15, v_16 =>
    bif decide (w_13 ≤ (((f_1.Pairs).length : Int))) then
     (idx f_1.Runners runner_2).bind fun x_24 =>
     (idx x_24.Worlds w_13).bind fun x_25 =>
     (M290 f_1 runner_2 w_13 x_25 (((((x_25).length : Int)) - 0 : Int).toNat + 1) 0 v_14 v_15 v_16).bind fun (v_35, v_36, v_37) =>
     (M291 f_1 runner_2 n_17) ((w64 (w_13 + 1))) v_35 v_36 v_37
    else
    some (v_14, v_15, v_16)
def M292 (f_1 : TField) (runner_2 : Int) : Option (TRank × Int) :=
 (M279 f_1 runner_2).bind fun r_5 =>
 bif r_5 != 0 then some (({ Bib := 0, Kind := 0, Lo := 0, Hi := 0, Out := false } : TRank), r_5) else
 (idx f_1.Runners runner_2).bind fun x_8 =>
 (M291 f_1 runner_2 (((((f_1.Pairs).length : Int)) + 1 - 0 : Int).toNat + 1) 0 0 0 false).bind fun (v_18, v_19, v_20) =>
 some (({ Bib := x_8.Bib, Kind := (bif (v_18 == 0) then 3 else (bif (v_18 == v_19) then (bif (!v_20) then 1 else 2) else 2)), Lo := v_18, Hi := v_19, Out := v_20 } : TRank), 0)
def M293 (f_1 : TField) (runner_2 : Int) : Option (Int) :=
 (M292 f_1 runner_2).bind fun (r_4, r_5) =>
 bif r_5 != 0 then some r_5 else
 bif r_4.Kind != 2 then some 270 else
 some 0
def M294 (f_1 : TField) (runner_2 : Int) (k_14 : Unit → Option (Bool)) : Nat → Int → Option (Bool)
  | 0, _ => none
  | n_12 + 1, v_11 =>
    bif decide (v_11 < 3) then
     (idx (([runner_2, 0, 1] : List Int)) v_11).bind fun x_16 =>
     (M127 f_1 x_16).bind fun (r_17, r_18) =>
     (M293 f_1 x_16).bind fun r_20 =>
     bif r_18 != r_20 then some false else
     bif r_18 != 0 then (M294 f_1 runner_2 k_14 n_12) ((w64 (v_11 + 1))) else
     (M292 f_1 x_16).bind fun (r_24, r_25) =>
     bif r_25 != 0 then some false else
     (M186 f_1 r_24 r_17).bind fun r_28 =>
     bif r_28 != 0 then some false else
     (M294 f_1 runner_2 k_14 n_12) ((w64 (v_11 + 1)))
    else
    k_14 ()
def M295 (_ : Unit) : Option (Bool) :=
 some true
def M296 (f_1 : TField) (runner_2 : Int) : Option (Bool) :=
 (M271).bind fun r_4 =>
 bif !r_4 then some false else
 (M278 f_1).bind fun r_7 =>
 bif !r_7 then some true else
 M294 f_1 runner_2 M295 ((3 - 0 : Int).toNat + 1) 0
def M297 (h_1 : THistory) : Option (Bool) :=
 bif decide ((((h_1.Offsets).length : Int)) ≤ 20) then some (decide ((((h_1.Choices).length : Int)) ≤ 20)) else
 some false
def M298 (f_1 : TField) (h_2 : THistory) : Nat → Int → Int → Option (Int)
  | 0, _, _ => none
  | n_15 + 1, ranked_13, i_14 =>
    bif decide (i_14 < (((f_1.Runners).length : Int))) then
     (M185 f_1 h_2 i_14).bind fun r_20 =>
     bif decide (r_20 > 0) then (M298 f_1 h_2 n_15) ((w64 (ranked_13 + 1))) ((w64 (i_14 + 1))) else
     (M298 f_1 h_2 n_15) ranked_13 ((w64 (i_14 + 1)))
    else
    some ranked_13
def M299 (l_3 : List Int) (i_28 : Int) (k_45 : Unit → Option (Int)) : Nat → Int → Option (Int)
  | 0, _ => none
  | n_43 + 1, k_42 =>
    bif decide (k_42 < i_28) then
     (idx l_3 k_42).bind fun x_47 =>
     (idx l_3 i_28).bind fun x_48 =>
     bif x_47 == x_48 then some 270 else
     (M299 l_3 i_28 k_45 n_43) ((w64 (k_42 + 1)))
    else
    k_45 ()
def M300 (i_28 : Int) (nx_30 : Int → Int → Option (Int)) (r_38 : Int) (_ : Unit) : Option (Int) :=
 nx_30 r_38 ((w64 (i_28 + 1)))
def M301 (f_1 : TField) (h_2 : THistory) (l_3 : List Int) (k_31 : Unit → Option (Int)) : Nat → Int → Int → Option (Int)
  | 0, _, _ => none
  | n_29 + 1, last_27, i_28 =>
    bif decide (i_28 < (((l_3).length : Int))) then
     (idx l_3 i_28).bind fun x_33 =>
     bif decide (x_33 < 0) then some 270 else
     (idx l_3 i_28).bind fun x_35 =>
     bif decide (x_35 ≥ (((f_1.Runners).length : Int))) then some 270 else
     (idx l_3 i_28).bind fun x_37 =>
     (M185 f_1 h_2 x_37).bind fun r_38 =>
     bif decide (r_38 < last_27) then some 270 else
     M299 l_3 i_28 (M300 i_28 (M301 f_1 h_2 l_3 k_31 n_29) r_38) ((i_28 - 0 : Int).toNat + 1) 0
    else
    k_31 ()
def M302 (_ : Unit) : Option (Int) :=
 some 0
def M303 (f_1 : TField) (h_2 : THistory) (l_3 : List Int) : Option (Int) :=
 (M160 f_1).bind fun r_5 =>
 bif r_5 != 0 then some 240 else
 (M176 f_1 h_2).bind fun r_8 =>
 bif r_8 != 0 then some 260 else
 (M298 f_1 h_2 (((((f_1.Runners).length : Int)) - 0 : Int).toNat + 1) 0 0).bind fun ranked_16 =>
 bif (((l_3).length : Int)) != ranked_16 then some 270 else
 M301 f_1 h_2 l_3 M302 (((((l_3).length : Int)) - 0 : Int).toNat + 1) 1 0
def M304 (f_1 : TField) (h_2 : THistory) (l_3 : List Int) : Option (Bool) :=
 (M271).bind fun r_5 =>
 bif !r_5 then some false else
 (M278 f_1).bind fun r_8 =>
 bif !r_8 then some true else
 (M297 h_2).bind fun r_11 =>
 bif !r_11 then some true else
 bif decide ((((l_3).length : Int)) > 10) then some true else
 (M270 f_1 h_2 l_3).bind fun r_15 =>
 (M303 f_1 h_2 l_3).bind fun r_17 =>
 some (r_15 == r_17)
def M305 (f_1 : TField) (r_14 : TRank) (k_30 : Unit → Option (Bool)) : Nat → Int → Option (Bool)
  | 0, _ => none
  | n_28 + 1, v_27 =>
    bif decide (v_27 < 2) then
     (idx (([({ Bib := r_14.Bib, Kind := r_14.Kind, Lo := (w64 (r_14.Lo + 1)), Hi := r_14.Hi, Out := r_14.Out } : TRank), ({ Bib := r_14.Bib, Kind := r_14.Kind, Lo := r_14.Lo, Hi := (w64 (r_14.Hi - 1)), Out := r_14.Out } : TRank)] : List TRank)) v_27).bind fun x_32 =>
     (M238 f_1 x_32).bind fun r_33 =>
     bif r_33 == 0 then some false else
     (M305 f_1 r_14 k_30 n_28) ((w64 (v_27 + 1)))
    else
    k_30 ()
def M306 (f_1 : TField) (runner_2 : Int) (r_14 : TRank) (r_17 : TProof) (r_18 : Int) (_ : Unit) : Option (Bool) :=
 bif r_14.Out then
  (M238 f_1 ({ Bib := r_14.Bib, Kind := r_14.Kind, Lo := r_14.Lo, Hi := r_14.Hi, Out := false } : TRank)).bind fun r_37 =>
  bif r_37 == 0 then some false else
  bif r_18 != 0 then some (r_18 == 270) else
  (M219 f_1 r_17.A ((Int.tmod (w64 runner_2) (((f_1.Runners).length : Int))))).bind fun (r_41, r_42) =>
  (M219 f_1 r_17.B ((Int.tmod (w64 runner_2) (((f_1.Runners).length : Int))))).bind fun (r_44, r_45) =>
  bif r_14.Lo == r_14.Hi then
   Option.bind (
    (M220 f_1 r_14 r_17).bind fun r_50 =>
    bif r_50 == 0 then
     (idx f_1.Runners (Int.tmod (w64 runner_2) (((f_1.Runners).length : Int)))).bind fun x_53 =>
     bif r_17.Bib == x_53.Bib then
      bif r_42 == 0 then
       bif r_45 == 0 then
        bif r_41 == r_14.Lo then
         bif r_44 == 0 then some (r_41 != r_44) else
         some false
        else
        some false
       else
       some false
      else
      some false
     else
     some false
    else
    some false
   ) fun v_48 =>
   some v_48
  else
  Option.bind (
   (M220 f_1 r_14 r_17).bind fun r_61 =>
   bif r_61 == 0 then
    (idx f_1.Runners (Int.tmod (w64 runner_2) (((f_1.Runners).length : Int)))).bind fun x_64 =>
    bif r_17.Bib == x_64.Bib then
     bif r_42 == 0 then
      bif r_45 == 0 then
       bif r_41 == r_14.Lo then
        bif r_44 == r_14.Hi then some (r_41 != r_44) else
        some false
       else
       some false
      else
      some false
     else
     some false
    else
    some false
   else
   some false
  ) fun v_59 =>
  some v_59
 else
 bif r_18 != 0 then some (r_18 == 270) else
 (M219 f_1 r_17.A ((Int.tmod (w64 runner_2) (((f_1.Runners).length : Int))))).bind fun (r_71, r_72) =>
 (M219 f_1 r_17.B ((Int.tmod (w64 runner_2) (((f_1.Runners).length : Int))))).bind fun (r_74, r_75) =>
 bif r_14.Lo == r_14.Hi then
  Option.bind (
   (M220 f_1 r_14 r_17).bind fun r_80 =>
   bif r_80 == 0 then
    (idx f_1.Runners (Int.tmod (w64 runner_2) (((f_1.Runners).length : Int)))).bind fun x_83 =>
    bif r_17.Bib == x_83.Bib then
     bif r_72 == 0 then
      bif r_75 == 0 then
       bif r_71 == r_14.Lo then
        bif r_74 == 0 then some (r_71 != r_74) else
        some false
       else
       some false
      else
      some false
     else
     some false
    else
    some false
   else
   some false
  ) fun v_78 =>
  some v_78
 else
 Option.bind (
  (M220 f_1 r_14 r_17).bind fun r_91 =>
  bif r_91 == 0 then
   (idx f_1.Runners (Int.tmod (w64 runner_2) (((f_1.Runners).length : Int)))).bind fun x_94 =>
   bif r_17.Bib == x_94.Bib then
    bif r_72 == 0 then
     bif r_75 == 0 then
      bif r_71 == r_14.Lo then
       bif r_74 == r_14.Hi then some (r_71 != r_74) else
       some false
      else
      some false
     else
     some false
    else
    some false
   else
   some false
  else
  some false
 ) fun v_89 =>
 some v_89
def M307 (f_1 : TField) (runner_2 : Int) : Option (Bool) :=
 (M271).bind fun r_4 =>
 bif !r_4 then some false else
 (M278 f_1).bind fun r_7 =>
 bif !r_7 then some true else
 (M160 f_1).bind fun r_10 =>
 bif r_10 != 0 then some true else
 (nz (((f_1.Runners).length : Int))).bind fun u_13 =>
 (M93 f_1 ((Int.tmod (w64 runner_2) (((f_1.Runners).length : Int))))).bind fun (r_14, r_15) =>
 (M127 f_1 ((Int.tmod (w64 runner_2) (((f_1.Runners).length : Int))))).bind fun (r_17, r_18) =>
 bif r_15 != 0 then some false else
 bif !((r_18 == 0) == (r_14.Kind == 2)) then some false else
 (M238 f_1 r_14).bind fun r_22 =>
 bif r_22 != 0 then some false else
 bif r_14.Kind != 3 then M305 f_1 r_14 (M306 f_1 runner_2 r_14 r_17 r_18) ((2 - 0 : Int).toNat + 1) 0 else
 bif r_14.Out then
  (M238 f_1 ({ Bib := r_14.Bib, Kind := r_14.Kind, Lo := r_14.Lo, Hi := r_14.Hi, Out := false } : TRank)).bind fun r_101 =>
  bif r_101 == 0 then some false else
  bif r_18 != 0 then some (r_18 == 270) else
  (M219 f_1 r_17.A ((Int.tmod (w64 runner_2) (((f_1.Runners).length : Int))))).bind fun (r_105, r_106) =>
  (M219 f_1 r_17.B ((Int.tmod (w64 runner_2) (((f_1.Runners).length : Int))))).bind fun (r_108, r_109) =>
  bif r_14.Lo == r_14.Hi then
   Option.bind (
    (M220 f_1 r_14 r_17).bind fun r_114 =>
    bif r_114 == 0 then
     (idx f_1.Runners (Int.tmod (w64 runner_2) (((f_1.Runners).length : Int)))).bind fun x_117 =>
     bif r_17.Bib == x_117.Bib then
      bif r_106 == 0 then
       bif r_109 == 0 then
        bif r_105 == r_14.Lo then
         bif r_108 == 0 then some (r_105 != r_108) else
         some false
        else
        some false
       else
       some false
      else
      some false
     else
     some false
    else
    some false
   ) fun v_112 =>
   some v_112
  else
  Option.bind (
   (M220 f_1 r_14 r_17).bind fun r_125 =>
   bif r_125 == 0 then
    (idx f_1.Runners (Int.tmod (w64 runner_2) (((f_1.Runners).length : Int)))).bind fun x_128 =>
    bif r_17.Bib == x_128.Bib then
     bif r_106 == 0 then
      bif r_109 == 0 then
       bif r_105 == r_14.Lo then
        bif r_108 == r_14.Hi then some (r_105 != r_108) else
        some false
       else
       some false
      else
      some false
     else
     some false
    else
    some false
   else
   some false
  ) fun v_123 =>
  some v_123
 else
 bif r_18 != 0 then some (r_18 == 270) else
 (M219 f_1 r_17.A ((Int.tmod (w64 runner_2) (((f_1.Runners).length : Int))))).bind fun (r_135, r_136) =>
 (M219 f_1 r_17.B ((Int.tmod (w64 runner_2) (((f_1.Runners).length : Int))))).bind fun (r_138, r_139) =>
 bif r_14.Lo == r_14.Hi then
  Option.bind (
   (M220 f_1 r_14 r_17).bind fun r_144 =>
   bif r_144 == 0 then
    (idx f_1.Runners (Int.tmod (w64 runner_2) (((f_1.Runners).length : Int)))).bind fun x_147 =>
    bif r_17.Bib == x_147.Bib then
     bif r_136 == 0 then
      bif r_139 == 0 then
       bif r_135 == r_14.Lo then
        bif r_138 == 0 then some (r_135 != r_138) else
        some false
       else
       some false
      else
      some false
     else
     some false
    else
    some false
   else
   some false
  ) fun v_142 =>
  some v_142
 else
 Option.bind (
  (M220 f_1 r_14 r_17).bind fun r_155 =>
  bif r_155 == 0 then
   (idx f_1.Runners (Int.tmod (w64 runner_2) (((f_1.Runners).length : Int)))).bind fun x_158 =>
   bif r_17.Bib == x_158.Bib then
    bif r_136 == 0 then
     bif r_139 == 0 then
      bif r_135 == r_14.Lo then
       bif r_138 == r_14.Hi then some (r_135 != r_138) else
       some false
      else
      some false
     else
     some false
    else
    some false
   else
   some false
  else
  some false
 ) fun v_153 =>
 some v_153
def M308 (f_1 : TField) (r_2 : TRank) (h_3 : THistory) : Option (Bool) :=
 (M271).bind fun r_5 =>
 bif !r_5 then some false else
 Option.bind (
  (M278 f_1).bind fun r_10 =>
  bif !r_10 then some true else
  (M297 h_3).bind fun r_13 =>
  bif !r_13 then some true else
  (M160 f_1).bind fun r_16 =>
  bif r_16 != 0 then some true else
  (M239 f_1 h_3).bind fun r_19 =>
  some (r_19 != 0)
 ) fun v_8 =>
 bif v_8 then some true else
 (M163 f_1 r_2.Bib).bind fun (r_22, r_23) =>
 (M238 f_1 r_2).bind fun r_25 =>
 bif r_25 != 0 then some true else
 (M219 f_1 h_3 r_22).bind fun (r_28, r_29) =>
 bif !r_23 then some false else
 bif r_29 != 0 then some false else
 some (bif (r_28 == 0) then (r_2.Out || ((decide (r_28 > 0)) && ((decide (r_2.Lo ≤ r_28)) && (decide (r_28 ≤ r_2.Hi))))) else ((decide (r_28 > 0)) && ((decide (r_2.Lo ≤ r_28)) && (decide (r_28 ≤ r_2.Hi)))))
def M309 (p_1 : TProof) : Option (Bool) :=
 (M297 p_1.A).bind fun r_3 =>
 bif r_3 then
  (M297 p_1.B).bind fun r_6 =>
  some r_6
 else
 some false
def M310 (f_1 : TField) (r_2 : TRank) (p_3 : TProof) : Option (Bool) :=
 (M271).bind fun r_5 =>
 bif !r_5 then some false else
 Option.bind (
  (M278 f_1).bind fun r_10 =>
  bif !r_10 then some true else
  (M309 p_3).bind fun r_13 =>
  bif !r_13 then some true else
  (M160 f_1).bind fun r_16 =>
  bif r_16 != 0 then some true else
  (M220 f_1 r_2 p_3).bind fun r_19 =>
  bif r_19 != 0 then some true else
  (M238 f_1 r_2).bind fun r_22 =>
  some (r_22 != 0)
 ) fun v_8 =>
 bif v_8 then some true else
 (M163 f_1 r_2.Bib).bind fun (r_25, r_26) =>
 (M93 f_1 r_25).bind fun (r_28, r_29) =>
 some (r_26 && ((r_29 == 0) && ((r_28.Lo == r_2.Lo) && ((r_28.Hi == r_2.Hi) && ((r_28.Kind == 2) && (r_2.Out || (!r_28.Out)))))))
def M311 (f_1 : TField) (h_2 : THistory) (at_3 : Int) : Option (Bool) :=
 (M271).bind fun r_5 =>
 bif !r_5 then some false else
 Option.bind (
  (M278 f_1).bind fun r_10 =>
  bif !r_10 then some true else
  (M297 h_2).bind fun r_13 =>
  bif !r_13 then some true else
  (M160 f_1).bind fun r_16 =>
  bif r_16 != 0 then some true else
  (M239 f_1 h_2).bind fun r_19 =>
  some (r_19 != 0)
 ) fun v_8 =>
 bif v_8 then some true else
 (M250 f_1 h_2).bind fun (r_22, r_23) =>
 bif r_23 != 0 then some false else
 bif decide ((((r_22).length : Int)) > (((f_1.Runners).length : Int))) then some false else
 (M270 f_1 h_2 r_22).bind fun r_27 =>
 bif r_27 != 0 then some false else
 bif decide ((((r_22).length : Int)) < 2) then some true else
 (nz (w64 ((((r_22).length : Int)) - 1))).bind fun u_31 =>
 (app 8 (([] : List Int)) r_22).bind fun l_32 =>
 (idx l_32 (w64 ((Int.tmod (w64 at_3) (w64 ((((r_22).length : Int)) - 1))) + 1))).bind fun x_33 =>
 (idx l_32 (Int.tmod (w64 at_3) (w64 ((((r_22).length : Int)) - 1)))).bind fun x_34 =>
 (idx l_32 (Int.tmod (w64 at_3) (w64 ((((r_22).length : Int)) - 1)))).bind fun x_35 =>
 (idx (List.set l_32 (Int.toNat (Int.tmod (w64 at_3) (w64 ((((r_22).length : Int)) - 1)))) x_33) (w64 ((Int.tmod (w64 at_3) (w64 ((((r_22).length : Int)) - 1))) + 1))).bind fun x_36 =>
 (idx r_22 (Int.tmod (w64 at_3) (w64 ((((r_22).length : Int)) - 1)))).bind fun x_37 =>
 (M219 f_1 h_2 x_37).bind fun (r_38, r_39) =>
 (idx r_22 (w64 ((Int.tmod (w64 at_3) (w64 ((((r_22).length : Int)) - 1))) + 1))).bind fun x_41 =>
 (M219 f_1 h_2 x_41).bind fun (r_42, r_43) =>
 bif r_39 != 0 then some false else
 bif r_43 != 0 then some false else
 (M270 f_1 h_2 ((List.set (List.set l_32 (Int.toNat (Int.tmod (w64 at_3) (w64 ((((r_22).length : Int)) - 1)))) x_33) (Int.toNat (w64 ((Int.tmod (w64 at_3) (w64 ((((r_22).length : Int)) - 1))) + 1))) x_34))).bind fun r_47 =>
 bif (r_47 == 0) == (r_38 == r_42) then
  (slcFrom r_22 1).bind fun l_50 =>
  (M270 f_1 h_2 l_50).bind fun r_51 =>
  some (r_51 == 270)
 else
 some false
end Go.Stop
