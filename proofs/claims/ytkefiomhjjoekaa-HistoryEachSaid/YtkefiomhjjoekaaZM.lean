/- Models of functions, by program (gen.py). No condition. -/
import Derived.Test.YtkefiomhjjoekaaZB7
namespace Go.Stop
open Go Go.Abs
set_option linter.unusedVariables false

structure TSegment where
  Mat : Int
  Epoch : Int
  Anchor : Int
  deriving DecidableEq, Inhabited

structure TClocks where
  Segments : List TSegment
  Far : List (List Int)
  deriving DecidableEq, Inhabited

structure TPair where
  A : Int
  B : Int
  deriving DecidableEq, Inhabited

structure TOutcome where
  Out : Bool
  Seg : Int
  Lo : Int
  Hi : Int
  deriving DecidableEq, Inhabited

structure TRunner where
  Bib : Int
  Keys : List Int
  Worlds : List (List TOutcome)
  deriving DecidableEq, Inhabited

structure TField where
  Clocks : TClocks
  Pairs : List TPair
  Runners : List TRunner
  deriving DecidableEq, Inhabited

structure TChoice where
  Outcome : Int
  X : Int
  deriving DecidableEq, Inhabited

structure THistory where
  World : Int
  Offsets : List Int
  Choices : List TChoice
  deriving DecidableEq, Inhabited

structure TRank where
  Bib : Int
  Kind : Int
  Lo : Int
  Hi : Int
  Out : Bool
  deriving DecidableEq, Inhabited

structure Thistory_view where
  f : TField
  h : THistory
  deriving DecidableEq, Inhabited

structure Thistory_pair_int_int where
  first : Int
  second : Int
  deriving DecidableEq, Inhabited

structure Tranks_place where
  world : Int
  outcome : Int
  rank : Int
  deriving DecidableEq, Inhabited

structure Tclocks_place where
  mat : Int
  epoch : Int
  deriving DecidableEq, Inhabited

def eTSegment (x : TSegment) : D := .ag [(.i .i64 x.Mat), (.i .i64 x.Epoch), (.i .i64 x.Anchor)]

def eTClocks (x : TClocks) : D := .ag [(.ls (List.map eTSegment x.Segments)), (.ls (List.map (eL eI) x.Far))]

def eTPair (x : TPair) : D := .ag [(.i .i64 x.A), (.i .i64 x.B)]

def eTOutcome (x : TOutcome) : D := .ag [(.b x.Out), (.i .i64 x.Seg), (.i .i64 x.Lo), (.i .i64 x.Hi)]

def eTRunner (x : TRunner) : D := .ag [(.i .i64 x.Bib), (.ls (List.map eI x.Keys)), (.ls (List.map (eL eTOutcome) x.Worlds))]

def eTField (x : TField) : D := .ag [(.ls (List.map eTSegment x.Clocks.Segments)), (.ls (List.map (eL eI) x.Clocks.Far)), (.ls (List.map eTPair x.Pairs)), (.ls (List.map eTRunner x.Runners))]

def eTChoice (x : TChoice) : D := .ag [(.i .i64 x.Outcome), (.i .i64 x.X)]

def eTHistory (x : THistory) : D := .ag [(.i .i64 x.World), (.ls (List.map eI x.Offsets)), (.ls (List.map eTChoice x.Choices))]

def eTRank (x : TRank) : D := .ag [(.i .i64 x.Bib), (.i .i64 x.Kind), (.i .i64 x.Lo), (.i .i64 x.Hi), (.b x.Out)]

def eThistory_view (x : Thistory_view) : D := .ag [(.ls (List.map eTSegment x.f.Clocks.Segments)), (.ls (List.map (eL eI) x.f.Clocks.Far)), (.ls (List.map eTPair x.f.Pairs)), (.ls (List.map eTRunner x.f.Runners)), (.i .i64 x.h.World), (.ls (List.map eI x.h.Offsets)), (.ls (List.map eTChoice x.h.Choices))]

def eThistory_pair_int_int (x : Thistory_pair_int_int) : D := .ag [(.i .i64 x.first), (.i .i64 x.second)]

def eTranks_place (x : Tranks_place) : D := .ag [(.i .i64 x.world), (.i .i64 x.outcome), (.i .i64 x.rank)]

def eTclocks_place (x : Tclocks_place) : D := .ag [(.i .i64 x.mat), (.i .i64 x.epoch)]

def M0 (lo_1 : Int) (hi_2 : Int) : Option (TOutcome) :=
 some ({ Out := false, Seg := (-1), Lo := lo_1, Hi := hi_2 } : TOutcome)

def M1 : Option (TField) :=
 (M0 10 12).bind fun r_2 =>
 (M0 11 13).bind fun r_4 =>
 (M0 20 21).bind fun r_6 =>
 some ({ Clocks := ({ Segments := (([] : List TSegment)), Far := (([(([0] : List Int))] : List (List Int))) } : TClocks), Pairs := (([] : List TPair)), Runners := (([({ Bib := 1, Keys := (([2] : List Int)), Worlds := (([(([({ Out := true, Seg := (-1), Lo := 0, Hi := 0 } : TOutcome), r_2] : List TOutcome))] : List (List TOutcome))) } : TRunner), ({ Bib := 2, Keys := (([1] : List Int)), Worlds := (([(([({ Out := true, Seg := (-1), Lo := 0, Hi := 0 } : TOutcome), r_4, r_6] : List TOutcome))] : List (List TOutcome))) } : TRunner)] : List TRunner)) } : TField)

def M2 (n_1 : Int) : Option (Bool) :=
 bif decide (n_1 ≥ (-1099511627776)) then some (decide (n_1 ≤ 1099511627776)) else
 some false

def M3 (x_1 : Int) : Option (Bool) :=
 some (x_1 != x_1)

def M4 (x_1 : Int) (y_2 : Int) : Option (Int) :=
 (M3 x_1).bind fun r_4 =>
 (M3 y_2).bind fun r_6 =>
 bif r_4 then
  bif r_6 then some 0 else
  some (-1)
 else
 bif r_6 then some 1 else
 bif decide (x_1 < y_2) then some (-1) else
 bif decide (x_1 > y_2) then some 1 else
 some 0

def M5 (vals_1 : List Int) (k_7 : Unit → Option (Int)) : Nat → Int → Option (Int)
  | 0, _ => none
  | n_5 + 1, v_4 =>
    bif decide (v_4 < (((vals_1).length : Int))) then
     (idx vals_1 v_4).bind fun x_9 =>
     bif x_9 != 0 then some x_9 else
     (M5 vals_1 k_7 n_5) ((w64 (v_4 + 1)))
    else
    k_7 ()

def M6 (_ : Unit) : Option (Int) :=
 some 0

def M7 (vals_1 : List Int) : Option (Int) :=
 M5 vals_1 M6 (((((vals_1).length : Int)) - 0 : Int).toNat + 1) 0

def M8 (p_1 : Tclocks_place) (q_2 : Tclocks_place) : Option (Int) :=
 (M4 p_1.mat q_2.mat).bind fun r_4 =>
 (M4 p_1.epoch q_2.epoch).bind fun r_6 =>
 (M7 ((([r_4, r_6] : List Int)))).bind fun r_8 =>
 some r_8

def M9 (a_1 : TSegment) (b_2 : TSegment) : Option (Int) :=
 (M8 ({ mat := a_1.Mat, epoch := a_1.Epoch } : Tclocks_place) ({ mat := b_2.Mat, epoch := b_2.Epoch } : Tclocks_place)).bind fun r_4 =>
 some r_4

def M10 (w_1 : Int) : Option (Bool) :=
 bif decide (w_1 < (-2199023255552)) then some true else
 some (decide (w_1 > 2199023255552))

def M11 (s_1 : List Int) (k_7 : Unit → Option (Int)) : Nat → Int → Option (Int)
  | 0, _ => none
  | n_5 + 1, v_4 =>
    bif decide (v_4 < (((s_1).length : Int))) then
     (idx s_1 v_4).bind fun x_9 =>
     (M10 x_9).bind fun r_10 =>
     bif r_10 then some v_4 else
     (M11 s_1 k_7 n_5) ((w64 (v_4 + 1)))
    else
    k_7 ()

def M12 (_ : Unit) : Option (Int) :=
 some (-1)

def M13 (s_1 : List Int) : Option (Int) :=
 M11 s_1 M12 (((((s_1).length : Int)) - 0 : Int).toNat + 1) 0

def M14 (s_1 : List Int) : Option (Bool) :=
 (M13 s_1).bind fun r_3 =>
 some (decide (r_3 ≥ 0))

def M15 (k_1 : TClocks) (k_9 : Unit → Option (Int)) : Nat → Int → Option (Int)
  | 0, _ => none
  | n_7 + 1, v_6 =>
    bif decide (v_6 < (((k_1.Segments).length : Int))) then
     (idx k_1.Segments v_6).bind fun x_11 =>
     Option.bind (
      bif decide (x_11.Mat < 0) then some true else
      bif decide (x_11.Mat ≥ 40) then some true else
      bif decide (x_11.Epoch < 0) then some true else
      bif decide (x_11.Epoch > 255) then some true else
      (M2 x_11.Anchor).bind fun r_18 =>
      bif !r_18 then some true else
      bif decide (v_6 > 0) then
       (idx k_1.Segments (w64 (v_6 - 1))).bind fun x_22 =>
       (M9 x_22 x_11).bind fun r_23 =>
       some (decide (r_23 ≥ 0))
      else
      some false
     ) fun v_12 =>
     bif v_12 then some 160 else
     (M15 k_1 k_9 n_7) ((w64 (v_6 + 1)))
    else
    k_9 ()

def M16 (k_1 : TClocks) (k_30 : Unit → Option (Int)) : Nat → Int → Option (Int)
  | 0, _ => none
  | n_28 + 1, v_27 =>
    bif decide (v_27 < (((k_1.Far).length : Int))) then
     (idx k_1.Far v_27).bind fun x_32 =>
     bif (((x_32).length : Int)) != (w64 ((((k_1.Segments).length : Int)) + 1)) then some 160 else
     (idx x_32 v_27).bind fun x_34 =>
     bif x_34 != 0 then some 160 else
     (M14 x_32).bind fun r_36 =>
     bif r_36 then some 160 else
     (M16 k_1 k_30 n_28) ((w64 (v_27 + 1)))
    else
    k_30 ()

def M17 (k_1 : TClocks) (v_40 : Int) (x_52 : Int) (x_53 : List Int) (k_58 : Unit → Option (Int)) : Nat → Int → Option (Int)
  | 0, _ => none
  | n_56 + 1, v_55 =>
    bif decide (v_55 < (((x_53).length : Int))) then
     (idx x_53 v_55).bind fun x_60 =>
     (idx k_1.Far v_40).bind fun x_61 =>
     (idx x_61 v_55).bind fun x_62 =>
     bif decide (x_62 > (w64 (x_52 + x_60))) then some 160 else
     (M17 k_1 v_40 x_52 x_53 k_58 n_56) ((w64 (v_55 + 1)))
    else
    k_58 ()

def M18 (v_47 : Int) (nx_49 : Int → Option (Int)) (_ : Unit) : Option (Int) :=
 nx_49 ((w64 (v_47 + 1)))

def M19 (k_1 : TClocks) (v_40 : Int) (x_45 : List Int) (k_50 : Unit → Option (Int)) : Nat → Int → Option (Int)
  | 0, _ => none
  | n_48 + 1, v_47 =>
    bif decide (v_47 < (((x_45).length : Int))) then
     (idx x_45 v_47).bind fun x_52 =>
     (idx k_1.Far v_47).bind fun x_53 =>
     M17 k_1 v_40 x_52 x_53 (M18 v_47 (M19 k_1 v_40 x_45 k_50 n_48)) (((((x_53).length : Int)) - 0 : Int).toNat + 1) 0
    else
    k_50 ()

def M20 (v_40 : Int) (nx_42 : Int → Option (Int)) (_ : Unit) : Option (Int) :=
 nx_42 ((w64 (v_40 + 1)))

def M21 (k_1 : TClocks) (k_43 : Unit → Option (Int)) : Nat → Int → Option (Int)
  | 0, _ => none
  | n_41 + 1, v_40 =>
    bif decide (v_40 < (w64 ((((k_1.Segments).length : Int)) + 1))) then
     (idx k_1.Far v_40).bind fun x_45 =>
     M19 k_1 v_40 x_45 (M20 v_40 (M21 k_1 k_43 n_41)) (((((x_45).length : Int)) - 0 : Int).toNat + 1) 0
    else
    k_43 ()

def M22 (_ : Unit) : Option (Int) :=
 some 0

def M23 (k_1 : TClocks) (_ : Unit) : Option (Int) :=
 M21 k_1 M22 (((w64 ((((k_1.Segments).length : Int)) + 1)) - 0 : Int).toNat + 1) 0

def M24 (k_1 : TClocks) (_ : Unit) : Option (Int) :=
 M16 k_1 (M23 k_1) (((((k_1.Far).length : Int)) - 0 : Int).toNat + 1) 0

def M25 (k_1 : TClocks) : Option (Int) :=
 bif decide ((((k_1.Segments).length : Int)) > 511) then some 160 else
 bif (((k_1.Far).length : Int)) != (w64 ((((k_1.Segments).length : Int)) + 1)) then some 160 else
 M15 k_1 (M24 k_1) (((((k_1.Segments).length : Int)) - 0 : Int).toNat + 1) 0

def M26 (slices_1 : List (List TOutcome)) : Nat → Int → Int → Option (Int)
  | 0, _, _ => none
  | n_7 + 1, size_5, v_6 =>
    bif decide (v_6 < (((slices_1).length : Int))) then
     (idx slices_1 v_6).bind fun x_12 =>
     bif decide ((w64 (size_5 + (((x_12).length : Int)))) < 0) then none else
     (M26 slices_1 n_7) ((w64 (size_5 + (((x_12).length : Int))))) ((w64 (v_6 + 1)))
    else
    some size_5

def M27 (slices_1 : List (List TOutcome)) : Nat → Int → (List TOutcome) → Option (List TOutcome)
  | 0, _, _ => none
  | n_23 + 1, v_21, l_22 =>
    bif decide (v_21 < (((slices_1).length : Int))) then
     (idx slices_1 v_21).bind fun x_28 =>
     (app 32 l_22 x_28).bind fun l_29 =>
     (M27 slices_1 n_23) ((w64 (v_21 + 1))) l_29
    else
    some l_22

def M28 (slices_1 : List (List TOutcome)) : Nat → Int → (List TOutcome) → Option (List TOutcome)
  | 0, _, _ => none
  | n_35 + 1, v_33, l_34 =>
    bif decide (v_33 < (((slices_1).length : Int))) then
     (idx slices_1 v_33).bind fun x_40 =>
     (app 32 l_34 x_40).bind fun l_41 =>
     (M28 slices_1 n_35) ((w64 (v_33 + 1))) l_41
    else
    some l_34

def M29 (slices_1 : List (List TOutcome)) : Option (List TOutcome) :=
 (M26 slices_1 (((((slices_1).length : Int)) - 0 : Int).toNat + 1) 0 0).bind fun size_8 =>
 bif decide (size_8 < 0) then none else
 bif decide ((w64 (size_8 - 0)) > 0) then
  (mkZ 32 (w64 (size_8 - 0))).bind fun n_17 =>
  (slcTo (List.replicate n_17 ({ Out := false, Seg := 0, Lo := 0, Hi := 0 } : TOutcome)) 0).bind fun l_18 =>
  (M27 slices_1 (((((slices_1).length : Int)) - 0 : Int).toNat + 1) 0 l_18).bind fun l_24 =>
  some l_24
 else
 (M28 slices_1 (((((slices_1).length : Int)) - 0 : Int).toNat + 1) 0 ((([] : List TOutcome)))).bind fun l_36 =>
 some l_36

def M30 : Option (TOutcome) :=
 some ({ Out := true, Seg := (-1), Lo := 0, Hi := 0 } : TOutcome)

def M31 (k_1 : TClocks) (x_2 : TOutcome) : Option (Int) :=
 (M25 k_1).bind fun r_4 =>
 bif r_4 != 0 then some r_4 else
 bif x_2.Out then
  (M30).bind fun r_13 =>
  bif !((x_2.Out == r_13.Out) && ((x_2.Seg == r_13.Seg) && ((x_2.Lo == r_13.Lo) && ((x_2.Hi == r_13.Hi) && true)))) then some 230 else
  some 0
 else
 bif !((decide (x_2.Seg ≥ (-1))) && ((decide (x_2.Seg < (((k_1.Segments).length : Int)))) && ((decide (x_2.Lo ≥ (-288230376151711744))) && ((decide (x_2.Lo ≤ x_2.Hi)) && (decide (x_2.Hi ≤ 288230376151711744)))))) then some 230 else
 some 0

def M32 (r_1 : TRunner) (c_2 : Int) : Option (Bool) :=
 (idx r_1.Worlds c_2).bind fun x_4 =>
 some ((((x_4).length : Int)) == 0)

def M33 (s_1 : List TRunner) (c_2 : Int) (k_8 : Unit → Option (Int)) : Nat → Int → Option (Int)
  | 0, _ => none
  | n_6 + 1, v_5 =>
    bif decide (v_5 < (((s_1).length : Int))) then
     (idx s_1 v_5).bind fun x_10 =>
     (M32 x_10 c_2).bind fun r_11 =>
     bif r_11 then some v_5 else
     (M33 s_1 c_2 k_8 n_6) ((w64 (v_5 + 1)))
    else
    k_8 ()

def M34 (_ : Unit) : Option (Int) :=
 some (-1)

def M35 (s_1 : List TRunner) (c_2 : Int) : Option (Int) :=
 M33 s_1 c_2 M34 (((((s_1).length : Int)) - 0 : Int).toNat + 1) 0

def M36 (s_1 : List TRunner) (c_2 : Int) : Option (Bool) :=
 (M35 s_1 c_2).bind fun r_4 =>
 some (decide (r_4 ≥ 0))

def M37 (f_1 : TField) (k_7 : Unit → Option (Bool)) : Nat → Int → Option (Bool)
  | 0, _ => none
  | n_5 + 1, v_4 =>
    bif decide (v_4 < (w64 ((((f_1.Pairs).length : Int)) + 1))) then
     (M36 f_1.Runners v_4).bind fun r_9 =>
     bif !r_9 then some true else
     (M37 f_1 k_7 n_5) ((w64 (v_4 + 1)))
    else
    k_7 ()

def M38 (_ : Unit) : Option (Bool) :=
 some false

def M39 (f_1 : TField) : Option (Bool) :=
 M37 f_1 M38 (((w64 ((((f_1.Pairs).length : Int)) + 1)) - 0 : Int).toNat + 1) 0

def M40 (f_1 : TField) (k_19 : Unit → Option (Int)) : Nat → Int → Int → Int → Option (Int)
  | 0, _, _, _ => none
  | n_17 + 1, v_14, v_15, v_16 =>
    bif decide (v_14 < (((f_1.Pairs).length : Int))) then
     (idx f_1.Pairs v_14).bind fun x_21 =>
     bif (decide (x_21.A < 1)) || ((decide (x_21.A ≥ x_21.B)) || ((decide (x_21.B > 9999)) || ((decide (x_21.A < v_15)) || ((x_21.A == v_15) && (decide (x_21.B ≤ v_16)))))) then some 240 else
     (M40 f_1 k_19 n_17) ((w64 (v_14 + 1))) x_21.A x_21.B
    else
    k_19 ()

def M41 (f_1 : TField) (r_45 : List TOutcome) (k_51 : Unit → Option (Int)) : Nat → Int → Option (Int)
  | 0, _ => none
  | n_49 + 1, v_48 =>
    bif decide (v_48 < (((r_45).length : Int))) then
     (idx r_45 v_48).bind fun x_53 =>
     (M31 f_1.Clocks x_53).bind fun r_54 =>
     bif r_54 != 0 then some 240 else
     (M41 f_1 r_45 k_51 n_49) ((w64 (v_48 + 1)))
    else
    k_51 ()

def M42 (v_32 : Int) (nx_34 : Int → Int → Option (Int)) (x_37 : TRunner) (_ : Unit) : Option (Int) :=
 nx_34 x_37.Bib ((w64 (v_32 + 1)))

def M43 (f_1 : TField) (k_35 : Unit → Option (Int)) : Nat → Int → Int → Option (Int)
  | 0, _, _ => none
  | n_33 + 1, bib_31, v_32 =>
    bif decide (v_32 < (((f_1.Runners).length : Int))) then
     (idx f_1.Runners v_32).bind fun x_37 =>
     Option.bind (
      bif decide (x_37.Bib ≤ bib_31) then some true else
      bif decide (x_37.Bib > 9999) then some true else
      (idx f_1.Runners 0).bind fun x_42 =>
      bif (((x_37.Keys).length : Int)) != (((x_42.Keys).length : Int)) then some true else
      some ((((x_37.Worlds).length : Int)) != (w64 ((((f_1.Pairs).length : Int)) + 1)))
     ) fun v_38 =>
     bif v_38 then some 240 else
     (M29 x_37.Worlds).bind fun r_45 =>
     M41 f_1 r_45 (M42 v_32 (M43 f_1 k_35 n_33) x_37) (((((r_45).length : Int)) - 0 : Int).toNat + 1) 0
    else
    k_35 ()

def M44 (f_1 : TField) (_ : Unit) : Option (Int) :=
 (M39 f_1).bind fun r_57 =>
 bif !r_57 then some 240 else
 some 0

def M45 (f_1 : TField) (_ : Unit) : Option (Int) :=
 M43 f_1 (M44 f_1) (((((f_1.Runners).length : Int)) - 0 : Int).toNat + 1) 0 0

def M46 (f_1 : TField) : Option (Int) :=
 Option.bind (
  (M25 f_1.Clocks).bind fun r_5 =>
  bif r_5 != 0 then some true else
  bif decide ((((f_1.Pairs).length : Int)) > 16) then some true else
  bif decide ((((f_1.Runners).length : Int)) < 1) then some true else
  some (decide ((((f_1.Runners).length : Int)) > 4000))
 ) fun v_3 =>
 bif v_3 then some 240 else
 M40 f_1 (M45 f_1) (((((f_1.Pairs).length : Int)) - 0 : Int).toNat + 1) 0 0 0

def M47 (r_1 : TRunner) (c_2 : Int) : Option (Bool) :=
 (idx r_1.Worlds c_2).bind fun x_4 =>
 some ((((x_4).length : Int)) == 0)

def M48 (s_1 : List TRunner) (c_2 : Int) (k_8 : Unit → Option (Int)) : Nat → Int → Option (Int)
  | 0, _ => none
  | n_6 + 1, v_5 =>
    bif decide (v_5 < (((s_1).length : Int))) then
     (idx s_1 v_5).bind fun x_10 =>
     (M47 x_10 c_2).bind fun r_11 =>
     bif r_11 then some v_5 else
     (M48 s_1 c_2 k_8 n_6) ((w64 (v_5 + 1)))
    else
    k_8 ()

def M49 (_ : Unit) : Option (Int) :=
 some (-1)

def M50 (s_1 : List TRunner) (c_2 : Int) : Option (Int) :=
 M48 s_1 c_2 M49 (((((s_1).length : Int)) - 0 : Int).toNat + 1) 0

def M51 (s_1 : List TRunner) (c_2 : Int) : Option (Bool) :=
 (M50 s_1 c_2).bind fun r_4 =>
 some (decide (r_4 ≥ 0))

def M52 (f_1 : TField) (world_2 : Int) : Option (Bool) :=
 (M51 f_1.Runners world_2).bind fun r_4 =>
 some (!r_4)

def M53 (n_1 : Int) : Option (Bool) :=
 bif decide (n_1 < (-2199023255552)) then some true else
 some (decide (n_1 > 2199023255552))

def M54 (s_1 : List Int) (k_7 : Unit → Option (Int)) : Nat → Int → Option (Int)
  | 0, _ => none
  | n_5 + 1, v_4 =>
    bif decide (v_4 < (((s_1).length : Int))) then
     (idx s_1 v_4).bind fun x_9 =>
     (M53 x_9).bind fun r_10 =>
     bif r_10 then some v_4 else
     (M54 s_1 k_7 n_5) ((w64 (v_4 + 1)))
    else
    k_7 ()

def M55 (_ : Unit) : Option (Int) :=
 some (-1)

def M56 (s_1 : List Int) : Option (Int) :=
 M54 s_1 M55 (((((s_1).length : Int)) - 0 : Int).toNat + 1) 0

def M57 (s_1 : List Int) : Option (Bool) :=
 (M56 s_1).bind fun r_3 =>
 some (decide (r_3 ≥ 0))

def M58 (l_4 : List Int) (v_9 : Int) (x_14 : List Int) (k_19 : Unit → Option (Bool)) : Nat → Int → Option (Bool)
  | 0, _ => none
  | n_17 + 1, v_16 =>
    bif decide (v_16 < (((x_14).length : Int))) then
     (idx x_14 v_16).bind fun x_21 =>
     (idx l_4 v_16).bind fun x_22 =>
     (idx l_4 v_9).bind fun x_23 =>
     bif decide ((w64 (x_22 - x_23)) > x_21) then some false else
     (M58 l_4 v_9 x_14 k_19 n_17) ((w64 (v_16 + 1)))
    else
    k_19 ()

def M59 (v_9 : Int) (nx_11 : Int → Option (Bool)) (_ : Unit) : Option (Bool) :=
 nx_11 ((w64 (v_9 + 1)))

def M60 (k_1 : TClocks) (l_4 : List Int) (k_12 : Unit → Option (Bool)) : Nat → Int → Option (Bool)
  | 0, _ => none
  | n_10 + 1, v_9 =>
    bif decide (v_9 < (((k_1.Far).length : Int))) then
     (idx k_1.Far v_9).bind fun x_14 =>
     M58 l_4 v_9 x_14 (M59 v_9 (M60 k_1 l_4 k_12 n_10)) (((((x_14).length : Int)) - 0 : Int).toNat + 1) 0
    else
    k_12 ()

def M61 (_ : Unit) : Option (Bool) :=
 some true

def M62 (k_1 : TClocks) (offsets_2 : List Int) : Option (Bool) :=
 (app 8 (([0] : List Int)) offsets_2).bind fun l_4 =>
 (M57 l_4).bind fun r_5 =>
 bif r_5 then some false else
 M60 k_1 l_4 M61 (((((k_1.Far).length : Int)) - 0 : Int).toNat + 1) 0

def M63 (v_1 : Thistory_view) (runner_2 : Int) : Option (List TOutcome) :=
 (idx v_1.f.Runners runner_2).bind fun x_4 =>
 (idx x_4.Worlds v_1.h.World).bind fun x_5 =>
 some x_5

def M64 (v_1 : Thistory_view) (runner_2 : Int) : Option (TOutcome) :=
 (M63 v_1 runner_2).bind fun r_4 =>
 (idx v_1.h.Choices runner_2).bind fun x_6 =>
 (idx r_4 x_6.Outcome).bind fun x_7 =>
 some x_7

def M65 (f_1 : TField) (h_2 : THistory) (k_24 : Unit → Option (Thistory_view × Int)) : Nat → Int → Option (Thistory_view × Int)
  | 0, _ => none
  | n_22 + 1, v_21 =>
    bif decide (v_21 < (((h_2.Choices).length : Int))) then
     (idx h_2.Choices v_21).bind fun x_26 =>
     bif decide (x_26.Outcome < 0) then some (({ f := f_1, h := h_2 } : Thistory_view), 260) else
     (M63 ({ f := f_1, h := h_2 } : Thistory_view) v_21).bind fun r_28 =>
     bif decide (x_26.Outcome ≥ (((r_28).length : Int))) then some (({ f := f_1, h := h_2 } : Thistory_view), 260) else
     (M64 ({ f := f_1, h := h_2 } : Thistory_view) v_21).bind fun r_31 =>
     bif r_31.Out then
      bif decide (x_26.X < 0) then some (({ f := f_1, h := h_2 } : Thistory_view), 260) else
      bif decide (x_26.X > 0) then some (({ f := f_1, h := h_2 } : Thistory_view), 260) else
      (M65 f_1 h_2 k_24 n_22) ((w64 (v_21 + 1)))
     else
     bif decide (x_26.X < r_31.Lo) then some (({ f := f_1, h := h_2 } : Thistory_view), 260) else
     bif decide (x_26.X > r_31.Hi) then some (({ f := f_1, h := h_2 } : Thistory_view), 260) else
     (M65 f_1 h_2 k_24 n_22) ((w64 (v_21 + 1)))
    else
    k_24 ()

def M66 (f_1 : TField) (h_2 : THistory) (_ : Unit) : Option (Thistory_view × Int) :=
 some (({ f := f_1, h := h_2 } : Thistory_view), 0)

def M67 (f_1 : TField) (h_2 : THistory) : Option (Thistory_view × Int) :=
 (M46 f_1).bind fun r_5 =>
 bif r_5 != 0 then some (({ f := ({ Clocks := ({ Segments := (([] : List TSegment)), Far := (([] : List (List Int))) } : TClocks), Pairs := (([] : List TPair)), Runners := (([] : List TRunner)) } : TField), h := ({ World := 0, Offsets := (([] : List Int)), Choices := (([] : List TChoice)) } : THistory) } : Thistory_view), 240) else
 Option.bind (
  bif decide (h_2.World < 0) then some true else
  bif decide (h_2.World > (((f_1.Pairs).length : Int))) then some true else
  (M52 f_1 h_2.World).bind fun r_12 =>
  bif !r_12 then some true else
  bif (((h_2.Offsets).length : Int)) != (((f_1.Clocks.Segments).length : Int)) then some true else
  bif (((h_2.Choices).length : Int)) != (((f_1.Runners).length : Int)) then some true else
  (M62 f_1.Clocks h_2.Offsets).bind fun r_17 =>
  some (!r_17)
 ) fun v_8 =>
 bif v_8 then some (({ f := f_1, h := h_2 } : Thistory_view), 260) else
 M65 f_1 h_2 (M66 f_1 h_2) (((((h_2.Choices).length : Int)) - 0 : Int).toNat + 1) 0

def M68 (f_1 : TField) (h_2 : THistory) (runner_3 : Int) : Option (Thistory_view × Int) :=
 (M67 f_1 h_2).bind fun (r_6, r_7) =>
 bif r_7 == 0 then
  bif decide (runner_3 < 0) then some (r_6, 250) else
  bif decide (runner_3 ≥ (((f_1.Runners).length : Int))) then some (r_6, 250) else
  some (r_6, r_7)
 else
 some (r_6, r_7)

def M69 (v_1 : Thistory_view) (runner_2 : Int) : Option (Int × Bool) :=
 (M64 v_1 runner_2).bind fun r_5 =>
 bif r_5.Out then some (0, false) else
 (idx v_1.h.Choices runner_2).bind fun x_8 =>
 bif decide (r_5.Seg ≥ 0) then
  (idx v_1.h.Offsets r_5.Seg).bind fun x_10 =>
  some ((w64 (x_8.X + x_10)), true)
 else
 some (x_8.X, true)

def M70 (v_1 : Thistory_view) : Nat → Int → (List Thistory_pair_int_int) → Option (List Thistory_pair_int_int)
  | 0, _, _ => none
  | n_7 + 1, v_5, l_6 =>
    bif decide (v_5 < (((v_1.f.Runners).length : Int))) then
     (M69 v_1 v_5).bind fun (r_12, r_13) =>
     bif r_13 then
      (app 16 l_6 (([({ first := v_5, second := r_12 } : Thistory_pair_int_int)] : List Thistory_pair_int_int))).bind fun l_16 =>
      (M70 v_1 n_7) ((w64 (v_5 + 1))) l_16
     else
     (M70 v_1 n_7) ((w64 (v_5 + 1))) l_6
    else
    some l_6

def M71 (v_1 : Thistory_view) : Option (List Thistory_pair_int_int) :=
 (M70 v_1 (((((v_1.f.Runners).length : Int)) - 0 : Int).toNat + 1) 0 ((([] : List Thistory_pair_int_int)))).bind fun l_8 =>
 some l_8

def M72 (s_1 : List Int) (s_2 : List Int) (k_8 : Unit → Option (Int)) : Nat → Int → Option (Int)
  | 0, _ => none
  | n_6 + 1, v_5 =>
    bif decide (v_5 < (((s_1).length : Int))) then
     (idx s_1 v_5).bind fun x_10 =>
     bif decide (v_5 ≥ (((s_2).length : Int))) then some 1 else
     (idx s_2 v_5).bind fun x_12 =>
     (M4 x_10 x_12).bind fun r_13 =>
     bif r_13 != 0 then some r_13 else
     (M72 s_1 s_2 k_8 n_6) ((w64 (v_5 + 1)))
    else
    k_8 ()

def M73 (s_1 : List Int) (s_2 : List Int) (_ : Unit) : Option (Int) :=
 bif decide ((((s_1).length : Int)) < (((s_2).length : Int))) then some (-1) else
 some 0

def M74 (s_1 : List Int) (s_2 : List Int) : Option (Int) :=
 M72 s_1 s_2 (M73 s_1 s_2) (((((s_1).length : Int)) - 0 : Int).toNat + 1) 0

def M75 (v_1 : Thistory_view) (a_2 : Thistory_pair_int_int) (b_3 : Thistory_pair_int_int) : Option (Int) :=
 (M4 a_2.second b_3.second).bind fun r_5 =>
 (idx v_1.f.Runners a_2.first).bind fun x_7 =>
 (idx v_1.f.Runners b_3.first).bind fun x_8 =>
 (M74 x_7.Keys x_8.Keys).bind fun r_9 =>
 (M7 ((([r_5, r_9] : List Int)))).bind fun r_11 =>
 some r_11

def M76 (runner_3 : Int) (r_6 : Thistory_view) (r_10 : Int) (r_14 : List Thistory_pair_int_int) : Nat → Int → Int → Option (Int)
  | 0, _, _ => none
  | n_20 + 1, n_18, v_19 =>
    bif decide (v_19 < (((r_14).length : Int))) then
     (idx r_14 v_19).bind fun x_25 =>
     (M75 r_6 x_25 ({ first := runner_3, second := r_10 } : Thistory_pair_int_int)).bind fun r_26 =>
     bif decide (r_26 < 0) then (M76 runner_3 r_6 r_10 r_14 n_20) ((w64 (n_18 + 1))) ((w64 (v_19 + 1))) else
     (M76 runner_3 r_6 r_10 r_14 n_20) n_18 ((w64 (v_19 + 1)))
    else
    some n_18

def M77 (f_1 : TField) (h_2 : THistory) (runner_3 : Int) : Option (Int × Int) :=
 (M68 f_1 h_2 runner_3).bind fun (r_6, r_7) =>
 bif r_7 != 0 then some (0, r_7) else
 (M69 r_6 runner_3).bind fun (r_10, r_11) =>
 bif !r_11 then some (0, 0) else
 (M71 r_6).bind fun r_14 =>
 (M76 runner_3 r_6 r_10 r_14 (((((r_14).length : Int)) - 0 : Int).toNat + 1) 0 0).bind fun n_21 =>
 some ((w64 (n_21 + 1)), 0)

def M78 (a_1 : Int) (c_3 : Thistory_view) : Nat → Int → (List Thistory_pair_int_int) → Option (List Thistory_pair_int_int)
  | 0, _, _ => none
  | n_19 + 1, j_17, l_18 =>
    bif decide (j_17 > a_1) then
     (idx l_18 j_17).bind fun x_24 =>
     (idx l_18 (w64 (j_17 - 1))).bind fun x_25 =>
     (M75 c_3 x_24 x_25).bind fun r_26 =>
     bif decide (r_26 < 0) then
      (idx l_18 (w64 (j_17 - 1))).bind fun x_29 =>
      (idx l_18 j_17).bind fun x_30 =>
      (idx l_18 j_17).bind fun x_31 =>
      (idx (List.set l_18 (Int.toNat j_17) x_29) (w64 (j_17 - 1))).bind fun x_32 =>
      (M78 a_1 c_3 n_19) ((w64 (j_17 - 1))) ((List.set (List.set l_18 (Int.toNat j_17) x_29) (Int.toNat (w64 (j_17 - 1))) x_30))
     else
     some l_18
    else
    some l_18

def M79 (a_1 : Int) (b_2 : Int) (c_3 : Thistory_view) : Nat → Int → (List Thistory_pair_int_int) → Option (List Thistory_pair_int_int)
  | 0, _, _ => none
  | n_10 + 1, i_8, l_9 =>
    bif decide (i_8 < b_2) then
     (M78 a_1 c_3 ((i_8 - a_1 : Int).toNat + 1) i_8 l_9).bind fun l_20 =>
     (M79 a_1 b_2 c_3 n_10) ((w64 (i_8 + 1))) l_20
    else
    some l_9

def M80 (a_1 : Int) (b_2 : Int) (c_3 : Thistory_view) (l_4 : List Thistory_pair_int_int) : Option (List Thistory_pair_int_int) :=
 (M79 a_1 b_2 c_3 ((b_2 - (w64 (a_1 + 1)) : Int).toNat + 1) ((w64 (a_1 + 1))) l_4).bind fun l_11 =>
 some l_11

def M81 (n_1 : Int) (c_2 : Thistory_view) : Nat → Int → Int → (List Thistory_pair_int_int) → Option (Int × List Thistory_pair_int_int)
  | 0, _, _, _ => none
  | n_11 + 1, a_8, b_9, l_10 =>
    bif decide (b_9 ≤ n_1) then
     (M80 a_8 b_9 c_2 l_10).bind fun l_17 =>
     (lenIs l_17 l_10).bind fun _ =>
     (M81 n_1 c_2 n_11) b_9 ((w64 (b_9 + 20))) l_17
    else
    some (a_8, l_10)

def M82 (n_1 : Int) : Nat → Option (Unit)
  | 0 => none
  | n_28 + 1 =>
    bif decide (40 ≤ n_1) then none else
    some ()

def M83 (n_1 : Int) : Nat → Option (Unit)
  | 0 => none
  | n_24 + 1 =>
    bif decide (20 < n_1) then
     (M82 n_1 ((n_1 + 1 - 40 : Int).toNat + 1)).bind fun _ =>
     none
    else
    some ()

def M84 (n_1 : Int) (c_2 : Thistory_view) (l_3 : List Thistory_pair_int_int) : Option (List Thistory_pair_int_int) :=
 (M81 n_1 c_2 ((n_1 + 1 - 20 : Int).toNat + 1) 0 20 l_3).bind fun (a_12, l_13) =>
 (M80 a_12 n_1 c_2 l_13).bind fun l_21 =>
 (lenIs l_21 l_13).bind fun _ =>
 (M83 n_1 ((n_1 - 20 : Int).toNat + 1)).bind fun _ =>
 some l_21

def M85 (c_1 : Thistory_view) (l_2 : List Thistory_pair_int_int) : Option (List Thistory_pair_int_int) :=
 (M84 ((((l_2).length : Int))) c_1 l_2).bind fun l_4 =>
 (lenIs l_4 l_2).bind fun _ =>
 some l_4

def M86 (r_5 : Thistory_view) : Nat → Int → (List Thistory_pair_int_int) → Option (List Thistory_pair_int_int)
  | 0, _, _ => none
  | n_13 + 1, v_11, l_12 =>
    bif decide (v_11 < (((r_5.f.Runners).length : Int))) then
     (M69 r_5 v_11).bind fun (r_18, r_19) =>
     bif r_19 then
      (app 16 l_12 (([({ first := v_11, second := r_18 } : Thistory_pair_int_int)] : List Thistory_pair_int_int))).bind fun l_22 =>
      (M86 r_5 n_13) ((w64 (v_11 + 1))) l_22
     else
     (M86 r_5 n_13) ((w64 (v_11 + 1))) l_12
    else
    some l_12

def M87 (l_24 : List Thistory_pair_int_int) : Nat → Int → (List Int) → Option (List Int)
  | 0, _, _ => none
  | n_31 + 1, v_29, l_30 =>
    bif decide (v_29 < (((l_24).length : Int))) then
     (idx l_24 v_29).bind fun x_36 =>
     (app 8 l_30 (([x_36.first] : List Int))).bind fun l_37 =>
     (M87 l_24 n_31) ((w64 (v_29 + 1))) l_37
    else
    some l_30

def M88 (f_1 : TField) (h_2 : THistory) : Option (List Int × Int) :=
 (M67 f_1 h_2).bind fun (r_5, r_6) =>
 bif r_6 != 0 then some ((([] : List Int)), r_6) else
 (M86 r_5 (((((r_5.f.Runners).length : Int)) - 0 : Int).toNat + 1) 0 ((([] : List Thistory_pair_int_int)))).bind fun l_14 =>
 (M85 r_5 l_14).bind fun l_24 =>
 (lenIs l_24 l_14).bind fun _ =>
 (M87 l_24 (((((l_24).length : Int)) - 0 : Int).toNat + 1) 0 ((([] : List Int)))).bind fun l_32 =>
 some (l_32, 0)

def M89 (f_1 : TField) (most_2 : Int) (v_13 : Int) : Nat → Int → Int → Option (Int)
  | 0, _, _ => none
  | n_23 + 1, many_21, v_22 =>
    bif decide (v_22 < (((f_1.Runners).length : Int))) then
     (idx f_1.Runners v_22).bind fun x_28 =>
     (idx x_28.Worlds v_13).bind fun x_29 =>
     (M89 f_1 most_2 v_13 n_23) ((minG (w64 (many_21 * (((x_29).length : Int)))) (w64 (most_2 + 1)))) ((w64 (v_22 + 1)))
    else
    some many_21

def M90 (f_1 : TField) (most_2 : Int) : Nat → Int → Int → Option (Int)
  | 0, _, _ => none
  | n_14 + 1, n_12, v_13 =>
    bif decide (v_13 < (w64 ((((f_1.Pairs).length : Int)) + 1))) then
     (M89 f_1 most_2 v_13 (((((f_1.Runners).length : Int)) - 0 : Int).toNat + 1) 1 0).bind fun many_24 =>
     (M90 f_1 most_2 n_14) ((minG (w64 (n_12 + many_24)) most_2)) ((w64 (v_13 + 1)))
    else
    some n_12

def M91 (f_1 : TField) (most_2 : Int) : Option (Int × Int) :=
 (M46 f_1).bind fun r_5 =>
 bif r_5 != 0 then some (0, 240) else
 bif decide (most_2 < 0) then some (0, 1) else
 bif decide (most_2 > 1073741824) then some (0, 1) else
 (M90 f_1 most_2 (((w64 ((((f_1.Pairs).length : Int)) + 1)) - 0 : Int).toNat + 1) 0 0).bind fun n_15 =>
 some (n_15, 0)

def M92 (f_1 : TField) (h_2 : THistory) : Option (Int) :=
 (M67 f_1 h_2).bind fun (r_4, r_5) =>
 some r_5

def M93 : Option (Bool) :=
 (M1).bind fun r_2 =>
 (mkN 16 2).bind fun n_4 =>
 (M77 r_2 (({ World := 0, Offsets := (([] : List Int)), Choices := (([({ Outcome := 1, X := 12 } : TChoice), ({ Outcome := 1, X := 12 } : TChoice)] : List TChoice)) } : THistory)) 0).bind fun (r_5, r_6) =>
 (M77 r_2 (({ World := 0, Offsets := (([] : List Int)), Choices := (([({ Outcome := 1, X := 12 } : TChoice), ({ Outcome := 1, X := 12 } : TChoice)] : List TChoice)) } : THistory)) 1).bind fun (r_8, r_9) =>
 (M88 r_2 (({ World := 0, Offsets := (([] : List Int)), Choices := (List.replicate n_4 ({ Outcome := 0, X := 0 } : TChoice)) } : THistory))).bind fun (r_11, r_12) =>
 (M91 r_2 100).bind fun (r_14, r_15) =>
 (M91 r_2 0).bind fun (r_17, r_18) =>
 (M91 r_2 (-1)).bind fun (r_20, r_21) =>
 (M77 r_2 (({ World := 0, Offsets := (([] : List Int)), Choices := (([({ Outcome := 1, X := 12 } : TChoice), ({ Outcome := 1, X := 12 } : TChoice)] : List TChoice)) } : THistory)) (-1)).bind fun (r_23, r_24) =>
 bif (r_6 != 0) || ((r_9 != 0) || ((r_12 != 0) || ((r_15 != 0) || ((r_18 != 0) || ((r_21 != 1) || (r_24 != 250)))))) then some false else
 Option.bind (
  bif r_5 == 2 then
   bif r_8 == 1 then
    bif (((r_11).length : Int)) == 0 then
     bif r_14 == 6 then
      bif r_17 == 0 then
       (M92 r_2 (({ World := 0, Offsets := (([] : List Int)), Choices := (([({ Outcome := 1, X := 12 } : TChoice), ({ Outcome := 1, X := 12 } : TChoice)] : List TChoice)) } : THistory))).bind fun r_41 =>
       bif r_41 == 0 then
        (M92 r_2 (({ World := 0, Offsets := (([] : List Int)), Choices := (([] : List TChoice)) } : THistory))).bind fun r_44 =>
        bif r_44 == 260 then
         (M92 (({ Clocks := ({ Segments := (([] : List TSegment)), Far := (([] : List (List Int))) } : TClocks), Pairs := (([] : List TPair)), Runners := (([] : List TRunner)) } : TField)) (({ World := 0, Offsets := (([] : List Int)), Choices := (([] : List TChoice)) } : THistory))).bind fun r_47 =>
         some (r_47 == 240)
        else
        some false
       else
       some false
      else
      some false
     else
     some false
    else
    some false
   else
   some false
  else
  some false
 ) fun v_34 =>
 some v_34

def M94 (k_1 : TClocks) (k_9 : Unit → Option (Bool)) : Nat → Int → Option (Bool)
  | 0, _ => none
  | n_7 + 1, i_6 =>
    bif decide (i_6 < (((k_1.Far).length : Int))) then
     (idx k_1.Far i_6).bind fun x_11 =>
     bif decide ((((x_11).length : Int)) > 12) then some false else
     (M94 k_1 k_9 n_7) ((w64 (i_6 + 1)))
    else
    k_9 ()

def M95 (_ : Unit) : Option (Bool) :=
 some true

def M96 (k_1 : TClocks) : Option (Bool) :=
 bif decide ((((k_1.Segments).length : Int)) > 8) then some false else
 bif decide ((((k_1.Far).length : Int)) > 10) then some false else
 M94 k_1 M95 (((((k_1.Far).length : Int)) - 0 : Int).toNat + 1) 0

def M97 (x_17 : TRunner) : Nat → Int → Int → Option (Int)
  | 0, _, _ => none
  | n_24 + 1, n_22, w_23 =>
    bif decide (w_23 < (((x_17.Worlds).length : Int))) then
     (idx x_17.Worlds w_23).bind fun x_29 =>
     (M97 x_17 n_24) ((w64 (n_22 + (((x_29).length : Int))))) ((w64 (w_23 + 1)))
    else
    some n_22

def M98 (f_1 : TField) (k_15 : Int → Option (Bool)) : Nat → Int → Int → Option (Bool)
  | 0, _, _ => none
  | n_12 + 1, n_10, i_11 =>
    bif decide (i_11 < (((f_1.Runners).length : Int))) then
     (idx f_1.Runners i_11).bind fun x_17 =>
     bif decide ((((x_17.Keys).length : Int)) > 8) then some false else
     bif decide ((((x_17.Worlds).length : Int)) > 5) then some false else
     (M97 x_17 (((((x_17.Worlds).length : Int)) - 0 : Int).toNat + 1) n_10 0).bind fun n_25 =>
     (M98 f_1 k_15 n_12) n_25 ((w64 (i_11 + 1)))
    else
    k_15 n_10

def M99 (n_13 : Int) : Option (Bool) :=
 some (decide (n_13 ≤ 60))

def M100 (f_1 : TField) : Option (Bool) :=
 bif decide ((((f_1.Runners).length : Int)) > 6) then some false else
 bif decide ((((f_1.Pairs).length : Int)) > 3) then some false else
 (M96 f_1.Clocks).bind fun r_5 =>
 bif !r_5 then some false else
 M98 f_1 M99 (((((f_1.Runners).length : Int)) - 0 : Int).toNat + 1) 0 0

def M101 (h_1 : THistory) : Option (Bool) :=
 bif decide ((((h_1.Offsets).length : Int)) ≤ 20) then some (decide ((((h_1.Choices).length : Int)) ≤ 20)) else
 some false

def M102 (f_1 : TField) (h_2 : THistory) : Option (Bool) :=
 (M100 f_1).bind fun r_4 =>
 bif r_4 then
  (M101 h_2).bind fun r_7 =>
  some r_7
 else
 some false

def M103 (n_1 : Int) : Option (Bool) :=
 bif decide (n_1 ≥ (-1099511627776)) then some (decide (n_1 ≤ 1099511627776)) else
 some false

def M104 (a_1 : TSegment) (b_2 : TSegment) : Option (Bool) :=
 bif decide (a_1.Mat < b_2.Mat) then some true else
 bif a_1.Mat == b_2.Mat then some (decide (a_1.Epoch < b_2.Epoch)) else
 some false

def M105 (k_1 : TClocks) (k_9 : Unit → Option (Int)) : Nat → Int → Option (Int)
  | 0, _ => none
  | n_7 + 1, i_6 =>
    bif decide (i_6 < (((k_1.Segments).length : Int))) then
     (idx k_1.Segments i_6).bind fun x_11 =>
     Option.bind (
      bif decide (x_11.Mat < 0) then some true else
      bif decide (x_11.Mat ≥ 40) then some true else
      bif decide (x_11.Epoch < 0) then some true else
      bif decide (x_11.Epoch > 255) then some true else
      (M103 x_11.Anchor).bind fun r_18 =>
      bif !r_18 then some true else
      bif decide (i_6 > 0) then
       (idx k_1.Segments (w64 (i_6 - 1))).bind fun x_22 =>
       (M104 x_22 x_11).bind fun r_23 =>
       some (!r_23)
      else
      some false
     ) fun v_12 =>
     bif v_12 then some 160 else
     (M105 k_1 k_9 n_7) ((w64 (i_6 + 1)))
    else
    k_9 ()

def M106 (k_1 : TClocks) (i_27 : Int) (k_41 : Unit → Option (Int)) : Nat → Int → Option (Int)
  | 0, _ => none
  | n_39 + 1, j_38 =>
    bif decide (j_38 ≤ (((k_1.Segments).length : Int))) then
     (idx k_1.Far i_27).bind fun x_43 =>
     (idx x_43 j_38).bind fun x_44 =>
     bif decide (x_44 < (-2199023255552)) then some 160 else
     (idx k_1.Far i_27).bind fun x_46 =>
     (idx x_46 j_38).bind fun x_47 =>
     bif decide (x_47 > 2199023255552) then some 160 else
     (M106 k_1 i_27 k_41 n_39) ((w64 (j_38 + 1)))
    else
    k_41 ()

def M107 (i_27 : Int) (nx_29 : Int → Option (Int)) (_ : Unit) : Option (Int) :=
 nx_29 ((w64 (i_27 + 1)))

def M108 (k_1 : TClocks) (k_30 : Unit → Option (Int)) : Nat → Int → Option (Int)
  | 0, _ => none
  | n_28 + 1, i_27 =>
    bif decide (i_27 ≤ (((k_1.Segments).length : Int))) then
     (idx k_1.Far i_27).bind fun x_32 =>
     bif (((x_32).length : Int)) != (w64 ((((k_1.Segments).length : Int)) + 1)) then some 160 else
     (idx k_1.Far i_27).bind fun x_34 =>
     (idx x_34 i_27).bind fun x_35 =>
     bif x_35 != 0 then some 160 else
     M106 k_1 i_27 (M107 i_27 (M108 k_1 k_30 n_28)) (((((k_1.Segments).length : Int)) + 1 - 0 : Int).toNat + 1) 0
    else
    k_30 ()

def M109 (k_1 : TClocks) (i_50 : Int) (j_56 : Int) (k_65 : Unit → Option (Int)) : Nat → Int → Option (Int)
  | 0, _ => none
  | n_63 + 1, m_62 =>
    bif decide (m_62 ≤ (((k_1.Segments).length : Int))) then
     (idx k_1.Far i_50).bind fun x_67 =>
     (idx x_67 m_62).bind fun x_68 =>
     (idx k_1.Far i_50).bind fun x_69 =>
     (idx x_69 j_56).bind fun x_70 =>
     (idx k_1.Far j_56).bind fun x_71 =>
     (idx x_71 m_62).bind fun x_72 =>
     bif decide (x_68 > (w64 (x_70 + x_72))) then some 160 else
     (M109 k_1 i_50 j_56 k_65 n_63) ((w64 (m_62 + 1)))
    else
    k_65 ()

def M110 (j_56 : Int) (nx_58 : Int → Option (Int)) (_ : Unit) : Option (Int) :=
 nx_58 ((w64 (j_56 + 1)))

def M111 (k_1 : TClocks) (i_50 : Int) (k_59 : Unit → Option (Int)) : Nat → Int → Option (Int)
  | 0, _ => none
  | n_57 + 1, j_56 =>
    bif decide (j_56 ≤ (((k_1.Segments).length : Int))) then M109 k_1 i_50 j_56 (M110 j_56 (M111 k_1 i_50 k_59 n_57)) (((((k_1.Segments).length : Int)) + 1 - 0 : Int).toNat + 1) 0 else
    k_59 ()

def M112 (i_50 : Int) (nx_52 : Int → Option (Int)) (_ : Unit) : Option (Int) :=
 nx_52 ((w64 (i_50 + 1)))

def M113 (k_1 : TClocks) (k_53 : Unit → Option (Int)) : Nat → Int → Option (Int)
  | 0, _ => none
  | n_51 + 1, i_50 =>
    bif decide (i_50 ≤ (((k_1.Segments).length : Int))) then M111 k_1 i_50 (M112 i_50 (M113 k_1 k_53 n_51)) (((((k_1.Segments).length : Int)) + 1 - 0 : Int).toNat + 1) 0 else
    k_53 ()

def M114 (_ : Unit) : Option (Int) :=
 some 0

def M115 (k_1 : TClocks) (_ : Unit) : Option (Int) :=
 M113 k_1 M114 (((((k_1.Segments).length : Int)) + 1 - 0 : Int).toNat + 1) 0

def M116 (k_1 : TClocks) (_ : Unit) : Option (Int) :=
 M108 k_1 (M115 k_1) (((((k_1.Segments).length : Int)) + 1 - 0 : Int).toNat + 1) 0

def M117 (k_1 : TClocks) : Option (Int) :=
 bif decide ((((k_1.Segments).length : Int)) > 511) then some 160 else
 bif (((k_1.Far).length : Int)) != (w64 ((((k_1.Segments).length : Int)) + 1)) then some 160 else
 M105 k_1 (M116 k_1) (((((k_1.Segments).length : Int)) - 0 : Int).toNat + 1) 0

def M118 (n_1 : Int) (least_2 : Int) (most_3 : Int) : Option (Bool) :=
 bif decide (n_1 ≥ least_2) then some (decide (n_1 ≤ most_3)) else
 some false

def M119 (n_1 : Int) : Option (Bool) :=
 (M118 n_1 1 9999).bind fun r_3 =>
 some r_3

def M120 (k_1 : TClocks) (x_2 : TOutcome) : Option (Int) :=
 (M117 k_1).bind fun r_4 =>
 bif r_4 != 0 then some r_4 else
 bif bif x_2.Out then ((x_2.Seg != (-1)) || ((x_2.Lo != 0) || (x_2.Hi != 0))) else ((decide (x_2.Seg < (-1))) || ((decide (x_2.Seg ≥ (((k_1.Segments).length : Int)))) || ((decide (x_2.Lo < (-288230376151711744))) || ((decide (x_2.Lo > x_2.Hi)) || (decide (x_2.Hi > 288230376151711744)))))) then some 230 else
 some 0

def M121 (f_1 : TField) (world_2 : Int) (k_8 : Unit → Option (Bool)) : Nat → Int → Option (Bool)
  | 0, _ => none
  | n_6 + 1, i_5 =>
    bif decide (i_5 < (((f_1.Runners).length : Int))) then
     bif decide (world_2 < 0) then some false else
     (idx f_1.Runners i_5).bind fun x_11 =>
     bif decide (world_2 ≥ (((x_11.Worlds).length : Int))) then some false else
     (idx f_1.Runners i_5).bind fun x_13 =>
     (idx x_13.Worlds world_2).bind fun x_14 =>
     bif (((x_14).length : Int)) == 0 then some false else
     (M121 f_1 world_2 k_8 n_6) ((w64 (i_5 + 1)))
    else
    k_8 ()

def M122 (_ : Unit) : Option (Bool) :=
 some true

def M123 (f_1 : TField) (world_2 : Int) : Option (Bool) :=
 M121 f_1 world_2 M122 (((((f_1.Runners).length : Int)) - 0 : Int).toNat + 1) 0

def M124 (f_1 : TField) (k_7 : Unit → Option (Bool)) : Nat → Int → Option (Bool)
  | 0, _ => none
  | n_5 + 1, w_4 =>
    bif decide (w_4 ≤ (((f_1.Pairs).length : Int))) then
     (M123 f_1 w_4).bind fun r_9 =>
     bif r_9 then some true else
     (M124 f_1 k_7 n_5) ((w64 (w_4 + 1)))
    else
    k_7 ()

def M125 (_ : Unit) : Option (Bool) :=
 some false

def M126 (f_1 : TField) : Option (Bool) :=
 M124 f_1 M125 (((((f_1.Pairs).length : Int)) + 1 - 0 : Int).toNat + 1) 0

def M127 (f_1 : TField) (k_15 : Unit → Option (Int)) : Nat → Int → Option (Int)
  | 0, _ => none
  | n_13 + 1, i_12 =>
    bif decide (i_12 < (((f_1.Pairs).length : Int))) then
     (idx f_1.Pairs i_12).bind fun x_17 =>
     bif decide (x_17.A < 1) then some 240 else
     bif decide (x_17.A ≥ x_17.B) then some 240 else
     bif decide (x_17.B > 9999) then some 240 else
     Option.bind (
      bif decide (i_12 > 0) then
       (idx f_1.Pairs (w64 (i_12 - 1))).bind fun x_24 =>
       bif decide (x_24.A > x_17.A) then some true else
       (idx f_1.Pairs (w64 (i_12 - 1))).bind fun x_26 =>
       bif x_26.A == x_17.A then
        (idx f_1.Pairs (w64 (i_12 - 1))).bind fun x_28 =>
        some (decide (x_28.B ≥ x_17.B))
       else
       some false
      else
      some false
     ) fun v_21 =>
     bif v_21 then some 240 else
     (M127 f_1 k_15 n_13) ((w64 (i_12 + 1)))
    else
    k_15 ()

def M128 (f_1 : TField) (x_36 : TRunner) (w_51 : Int) (k_60 : Unit → Option (Int)) : Nat → Int → Option (Int)
  | 0, _ => none
  | n_58 + 1, n_57 =>
    (idx x_36.Worlds w_51).bind fun x_61 =>
    bif decide (n_57 < (((x_61).length : Int))) then
     (idx x_36.Worlds w_51).bind fun x_63 =>
     (idx x_63 n_57).bind fun x_64 =>
     (M120 f_1.Clocks x_64).bind fun r_65 =>
     bif r_65 != 0 then some 240 else
     (M128 f_1 x_36 w_51 k_60 n_58) ((w64 (n_57 + 1)))
    else
    k_60 ()

def M129 (w_51 : Int) (nx_53 : Int → Option (Int)) (_ : Unit) : Option (Int) :=
 nx_53 ((w64 (w_51 + 1)))

def M130 (f_1 : TField) (x_36 : TRunner) (k_54 : Unit → Option (Int)) : Nat → Int → Option (Int)
  | 0, _ => none
  | n_52 + 1, w_51 =>
    bif decide (w_51 < (((x_36.Worlds).length : Int))) then M128 f_1 x_36 w_51 (M129 w_51 (M130 f_1 x_36 k_54 n_52)) ((((((Option.getD (idx x_36.Worlds w_51) default)).length : Int)) - 0 : Int).toNat + 1) 0 else
    k_54 ()

def M131 (i_31 : Int) (nx_33 : Int → Option (Int)) (_ : Unit) : Option (Int) :=
 nx_33 ((w64 (i_31 + 1)))

def M132 (f_1 : TField) (k_34 : Unit → Option (Int)) : Nat → Int → Option (Int)
  | 0, _ => none
  | n_32 + 1, i_31 =>
    bif decide (i_31 < (((f_1.Runners).length : Int))) then
     (idx f_1.Runners i_31).bind fun x_36 =>
     Option.bind (
      (M119 x_36.Bib).bind fun r_39 =>
      bif !r_39 then some true else
      bif decide (i_31 > 0) then
       (idx f_1.Runners (w64 (i_31 - 1))).bind fun x_43 =>
       bif decide (x_43.Bib ≥ x_36.Bib) then some true else
       (idx f_1.Runners 0).bind fun x_45 =>
       bif (((x_36.Keys).length : Int)) != (((x_45.Keys).length : Int)) then some true else
       some ((((x_36.Worlds).length : Int)) != (w64 ((((f_1.Pairs).length : Int)) + 1)))
      else
      (idx f_1.Runners 0).bind fun x_47 =>
      bif (((x_36.Keys).length : Int)) != (((x_47.Keys).length : Int)) then some true else
      some ((((x_36.Worlds).length : Int)) != (w64 ((((f_1.Pairs).length : Int)) + 1)))
     ) fun v_37 =>
     bif v_37 then some 240 else
     M130 f_1 x_36 (M131 i_31 (M132 f_1 k_34 n_32)) (((((x_36.Worlds).length : Int)) - 0 : Int).toNat + 1) 0
    else
    k_34 ()

def M133 (f_1 : TField) (_ : Unit) : Option (Int) :=
 (M126 f_1).bind fun r_68 =>
 bif !r_68 then some 240 else
 some 0

def M134 (f_1 : TField) (_ : Unit) : Option (Int) :=
 M132 f_1 (M133 f_1) (((((f_1.Runners).length : Int)) - 0 : Int).toNat + 1) 0

def M135 (f_1 : TField) : Option (Int) :=
 Option.bind (
  (M117 f_1.Clocks).bind fun r_5 =>
  bif r_5 != 0 then some true else
  bif decide ((((f_1.Pairs).length : Int)) > 16) then some true else
  bif decide ((((f_1.Runners).length : Int)) < 1) then some true else
  some (decide ((((f_1.Runners).length : Int)) > 4000))
 ) fun v_3 =>
 bif v_3 then some 240 else
 M127 f_1 (M134 f_1) (((((f_1.Pairs).length : Int)) - 0 : Int).toNat + 1) 0

def M136 (f_1 : TField) (world_2 : Int) (k_10 : Unit → Option (Bool)) : Nat → Int → Option (Bool)
  | 0, _ => none
  | n_8 + 1, i_7 =>
    bif decide (i_7 < (((f_1.Runners).length : Int))) then
     (idx f_1.Runners i_7).bind fun x_12 =>
     bif decide (world_2 ≥ (((x_12.Worlds).length : Int))) then some false else
     (idx f_1.Runners i_7).bind fun x_14 =>
     (idx x_14.Worlds world_2).bind fun x_15 =>
     bif (((x_15).length : Int)) == 0 then some false else
     (M136 f_1 world_2 k_10 n_8) ((w64 (i_7 + 1)))
    else
    k_10 ()

def M137 (_ : Unit) : Option (Bool) :=
 some true

def M138 (f_1 : TField) (world_2 : Int) : Option (Bool) :=
 bif decide (world_2 < 0) then some false else
 bif decide (world_2 > (((f_1.Pairs).length : Int))) then some false else
 M136 f_1 world_2 M137 (((((f_1.Runners).length : Int)) - 0 : Int).toNat + 1) 0

def M139 (l_9 : List Int) (k_14 : Unit → Option (Bool)) : Nat → Int → Option (Bool)
  | 0, _ => none
  | n_12 + 1, i_11 =>
    bif decide (i_11 < (((l_9).length : Int))) then
     (idx l_9 i_11).bind fun x_16 =>
     bif decide (x_16 < (-1125899906842624)) then some false else
     (idx l_9 i_11).bind fun x_18 =>
     bif decide (x_18 > 1125899906842624) then some false else
     (M139 l_9 k_14 n_12) ((w64 (i_11 + 1)))
    else
    k_14 ()

def M140 (f_1 : TField) (l_9 : List Int) (i_21 : Int) (k_30 : Unit → Option (Bool)) : Nat → Int → Option (Bool)
  | 0, _ => none
  | n_28 + 1, k_27 =>
    bif decide (k_27 < (((l_9).length : Int))) then
     (idx l_9 k_27).bind fun x_32 =>
     (idx l_9 i_21).bind fun x_33 =>
     (idx f_1.Clocks.Far i_21).bind fun x_34 =>
     (idx x_34 k_27).bind fun x_35 =>
     bif decide ((w64 (x_32 - x_33)) > x_35) then some false else
     (M140 f_1 l_9 i_21 k_30 n_28) ((w64 (k_27 + 1)))
    else
    k_30 ()

def M141 (i_21 : Int) (nx_23 : Int → Option (Bool)) (_ : Unit) : Option (Bool) :=
 nx_23 ((w64 (i_21 + 1)))

def M142 (f_1 : TField) (l_9 : List Int) (k_24 : Unit → Option (Bool)) : Nat → Int → Option (Bool)
  | 0, _ => none
  | n_22 + 1, i_21 =>
    bif decide (i_21 < (((l_9).length : Int))) then M140 f_1 l_9 i_21 (M141 i_21 (M142 f_1 l_9 k_24 n_22)) (((((l_9).length : Int)) - 0 : Int).toNat + 1) 0 else
    k_24 ()

def M143 (f_1 : TField) (h_2 : THistory) (k_41 : Unit → Option (Bool)) : Nat → Int → Option (Bool)
  | 0, _ => none
  | n_39 + 1, i_38 =>
    bif decide (i_38 < (((h_2.Choices).length : Int))) then
     (idx f_1.Runners i_38).bind fun x_43 =>
     (idx x_43.Worlds h_2.World).bind fun x_44 =>
     (idx h_2.Choices i_38).bind fun x_45 =>
     bif decide (x_45.Outcome < 0) then some false else
     bif decide (x_45.Outcome ≥ (((x_44).length : Int))) then some false else
     (idx x_44 x_45.Outcome).bind fun x_48 =>
     bif bif x_48.Out then (x_45.X != 0) else ((decide (x_45.X < x_48.Lo)) || (decide (x_45.X > x_48.Hi))) then some false else
     (M143 f_1 h_2 k_41 n_39) ((w64 (i_38 + 1)))
    else
    k_41 ()

def M144 (_ : Unit) : Option (Bool) :=
 some true

def M145 (f_1 : TField) (h_2 : THistory) (_ : Unit) : Option (Bool) :=
 M143 f_1 h_2 M144 (((((h_2.Choices).length : Int)) - 0 : Int).toNat + 1) 0

def M146 (f_1 : TField) (h_2 : THistory) (l_9 : List Int) (_ : Unit) : Option (Bool) :=
 M142 f_1 l_9 (M145 f_1 h_2) (((((l_9).length : Int)) - 0 : Int).toNat + 1) 0

def M147 (f_1 : TField) (h_2 : THistory) : Option (Bool) :=
 (M138 f_1 h_2.World).bind fun r_4 =>
 bif !r_4 then some false else
 bif (((h_2.Offsets).length : Int)) != (((f_1.Clocks.Segments).length : Int)) then some false else
 bif (((h_2.Choices).length : Int)) != (((f_1.Runners).length : Int)) then some false else
 (app 8 (([0] : List Int)) h_2.Offsets).bind fun l_9 =>
 M139 l_9 (M146 f_1 h_2 l_9) (((((l_9).length : Int)) - 0 : Int).toNat + 1) 0

def M148 (f_1 : TField) (h_2 : THistory) : Option (Int) :=
 (M135 f_1).bind fun r_4 =>
 bif r_4 != 0 then some 240 else
 (M147 f_1 h_2).bind fun r_7 =>
 bif !r_7 then some 260 else
 some 0

def M149 (f_1 : TField) (h_2 : THistory) : Option (Bool) :=
 (M93).bind fun r_4 =>
 bif !r_4 then some false else
 (M102 f_1 h_2).bind fun r_7 =>
 bif !r_7 then some true else
 (M92 f_1 h_2).bind fun r_10 =>
 (M148 f_1 h_2).bind fun r_12 =>
 some (r_10 == r_12)

def M150 (f_1 : TField) (h_2 : THistory) (runner_3 : Int) : Option (TOutcome) :=
 (idx f_1.Runners runner_3).bind fun x_5 =>
 (idx x_5.Worlds h_2.World).bind fun x_6 =>
 (idx h_2.Choices runner_3).bind fun x_7 =>
 (idx x_6 x_7.Outcome).bind fun x_8 =>
 some x_8

def M151 (h_1 : THistory) (x_2 : TOutcome) : Option (Int) :=
 bif decide (x_2.Seg < 0) then some 0 else
 (idx h_1.Offsets x_2.Seg).bind fun x_5 =>
 some x_5

def M152 (f_1 : TField) (h_2 : THistory) (runner_3 : Int) : Option (Int × Bool) :=
 (M150 f_1 h_2 runner_3).bind fun r_6 =>
 bif r_6.Out then some (0, false) else
 (idx h_2.Choices runner_3).bind fun x_9 =>
 (M151 h_2 r_6).bind fun r_10 =>
 some ((w64 (x_9.X + r_10)), true)

def M153 (a_1 : List Int) (b_2 : List Int) (k_8 : Unit → Option (Bool)) : Nat → Int → Option (Bool)
  | 0, _ => none
  | n_6 + 1, i_5 =>
    bif decide (i_5 < (((a_1).length : Int))) then
     bif decide (i_5 < (((b_2).length : Int))) then
      (idx a_1 i_5).bind fun x_11 =>
      (idx b_2 i_5).bind fun x_12 =>
      bif x_11 != x_12 then
       (idx a_1 i_5).bind fun x_14 =>
       (idx b_2 i_5).bind fun x_15 =>
       some (decide (x_14 < x_15))
      else
      (M153 a_1 b_2 k_8 n_6) ((w64 (i_5 + 1)))
     else
     k_8 ()
    else
    k_8 ()

def M154 (a_1 : List Int) (b_2 : List Int) (_ : Unit) : Option (Bool) :=
 some (decide ((((a_1).length : Int)) < (((b_2).length : Int))))

def M155 (a_1 : List Int) (b_2 : List Int) : Option (Bool) :=
 M153 a_1 b_2 (M154 a_1 b_2) (((((a_1).length : Int)) - 0 : Int).toNat + 1) 0

def M156 (f_1 : TField) (h_2 : THistory) (a_3 : Int) (b_4 : Int) : Option (Bool) :=
 (M152 f_1 h_2 a_3).bind fun (r_6, r_7) =>
 (M152 f_1 h_2 b_4).bind fun (r_9, r_10) =>
 bif !r_7 then some r_7 else
 bif !r_10 then some r_7 else
 bif decide (r_6 < r_9) then some true else
 bif r_6 == r_9 then
  (idx f_1.Runners a_3).bind fun x_16 =>
  (idx f_1.Runners b_4).bind fun x_17 =>
  (M155 x_16.Keys x_17.Keys).bind fun r_18 =>
  some r_18
 else
 some false

def M157 (f_1 : TField) (h_2 : THistory) (runner_3 : Int) : Nat → Int → Int → Option (Int)
  | 0, _, _ => none
  | n_13 + 1, n_11, i_12 =>
    bif decide (i_12 < (((f_1.Runners).length : Int))) then
     (M156 f_1 h_2 i_12 runner_3).bind fun r_18 =>
     bif r_18 then (M157 f_1 h_2 runner_3 n_13) ((w64 (n_11 + 1))) ((w64 (i_12 + 1))) else
     (M157 f_1 h_2 runner_3 n_13) n_11 ((w64 (i_12 + 1)))
    else
    some n_11

def M158 (f_1 : TField) (h_2 : THistory) (runner_3 : Int) : Option (Int) :=
 (M152 f_1 h_2 runner_3).bind fun (r_5, r_6) =>
 bif !r_6 then some 0 else
 (M157 f_1 h_2 runner_3 (((((f_1.Runners).length : Int)) - 0 : Int).toNat + 1) 1 0).bind fun n_14 =>
 some n_14

def M159 (f_1 : TField) (h_2 : THistory) (n_10 : Int) : Nat → Int → (List Int) → Option (List Int)
  | 0, _, _ => none
  | n_21 + 1, i_19, l_20 =>
    bif decide (i_19 < (((f_1.Runners).length : Int))) then
     (M158 f_1 h_2 i_19).bind fun r_26 =>
     bif r_26 == n_10 then
      (app 8 l_20 (([i_19] : List Int))).bind fun l_29 =>
      (M159 f_1 h_2 n_10 n_21) ((w64 (i_19 + 1))) l_29
     else
     (M159 f_1 h_2 n_10 n_21) ((w64 (i_19 + 1))) l_20
    else
    some l_20

def M160 (f_1 : TField) (h_2 : THistory) : Nat → Int → (List Int) → Option (List Int)
  | 0, _, _ => none
  | n_12 + 1, n_10, l_11 =>
    bif decide (n_10 ≤ (((f_1.Runners).length : Int))) then
     (M159 f_1 h_2 n_10 (((((f_1.Runners).length : Int)) - 0 : Int).toNat + 1) 0 l_11).bind fun l_22 =>
     (M160 f_1 h_2 n_12) ((w64 (n_10 + 1))) l_22
    else
    some l_11

def M161 (f_1 : TField) (h_2 : THistory) : Option (List Int × Int) :=
 (M148 f_1 h_2).bind fun r_5 =>
 bif r_5 != 0 then some ((([] : List Int)), r_5) else
 (M160 f_1 h_2 (((((f_1.Runners).length : Int)) + 1 - 1 : Int).toNat + 1) 1 ((([] : List Int)))).bind fun l_13 =>
 some (l_13, 0)

def M162 (f_1 : TField) (most_2 : Int) (w_13 : Int) : Nat → Int → Int → Option (Int)
  | 0, _, _ => none
  | n_23 + 1, n_21, i_22 =>
    bif decide (i_22 < (((f_1.Runners).length : Int))) then
     (idx f_1.Runners i_22).bind fun x_28 =>
     (idx x_28.Worlds w_13).bind fun x_29 =>
     bif decide ((w64 (n_21 * (((x_29).length : Int)))) > most_2) then (M162 f_1 most_2 w_13 n_23) ((w64 (most_2 + 1))) ((w64 (i_22 + 1))) else
     (M162 f_1 most_2 w_13 n_23) ((w64 (n_21 * (((x_29).length : Int))))) ((w64 (i_22 + 1)))
    else
    some n_21

def M163 (f_1 : TField) (most_2 : Int) : Nat → Int → Int → Option (Int)
  | 0, _, _ => none
  | n_14 + 1, sum_12, w_13 =>
    bif decide (w_13 ≤ (((f_1.Pairs).length : Int))) then
     (M162 f_1 most_2 w_13 (((((f_1.Runners).length : Int)) - 0 : Int).toNat + 1) 1 0).bind fun n_24 =>
     (M163 f_1 most_2 n_14) ((minG most_2 (w64 (sum_12 + n_24)))) ((w64 (w_13 + 1)))
    else
    some sum_12

def M164 (f_1 : TField) (most_2 : Int) : Option (Int × Int) :=
 (M135 f_1).bind fun r_5 =>
 bif r_5 != 0 then some (0, 240) else
 bif decide (most_2 < 0) then some (0, 1) else
 bif decide (most_2 > 1073741824) then some (0, 1) else
 (M163 f_1 most_2 (((((f_1.Pairs).length : Int)) + 1 - 0 : Int).toNat + 1) 0 0).bind fun sum_15 =>
 some (sum_15, 0)

def M165 (a_1 : List Int) (b_2 : List Int) (k_9 : Unit → Option (Bool)) : Nat → Int → Option (Bool)
  | 0, _ => none
  | n_7 + 1, i_6 =>
    bif decide (i_6 < (((a_1).length : Int))) then
     (idx a_1 i_6).bind fun x_11 =>
     (idx b_2 i_6).bind fun x_12 =>
     bif x_11 != x_12 then some false else
     (M165 a_1 b_2 k_9 n_7) ((w64 (i_6 + 1)))
    else
    k_9 ()

def M166 (_ : Unit) : Option (Bool) :=
 some true

def M167 (a_1 : List Int) (b_2 : List Int) : Option (Bool) :=
 bif (((a_1).length : Int)) != (((b_2).length : Int)) then some false else
 M165 a_1 b_2 M166 (((((a_1).length : Int)) - 0 : Int).toNat + 1) 0

def M168 (f_1 : TField) (h_2 : THistory) (most_3 : Int) : Option (Bool) :=
 (M93).bind fun r_5 =>
 bif !r_5 then some false else
 (M102 f_1 h_2).bind fun r_8 =>
 bif !r_8 then some true else
 (M88 f_1 h_2).bind fun (r_11, r_12) =>
 (M161 f_1 h_2).bind fun (r_14, r_15) =>
 (M91 f_1 most_3).bind fun (r_17, r_18) =>
 (M164 f_1 most_3).bind fun (r_20, r_21) =>
 Option.bind (
  (M167 r_11 r_14).bind fun r_25 =>
  bif r_25 then
   bif r_12 == r_15 then
    bif r_17 == r_20 then some (r_18 == r_21) else
    some false
   else
   some false
  else
  some false
 ) fun v_23 =>
 some v_23

def M169 (f_1 : TField) (by_3 : Int) (i_8 : Int) (k_19 : Int) : Nat → Int → (List TOutcome) → Option (List TOutcome)
  | 0, _, _ => none
  | n_31 + 1, m_29, l_30 =>
    (idx f_1.Runners i_8).bind fun x_35 =>
    (idx x_35.Worlds k_19).bind fun x_36 =>
    bif decide (m_29 < (((x_36).length : Int))) then
     (idx f_1.Runners i_8).bind fun x_38 =>
     (idx x_38.Worlds k_19).bind fun x_39 =>
     (idx x_39 m_29).bind fun x_40 =>
     bif !x_40.Out then
      (app 32 l_30 (([({ Out := x_40.Out, Seg := x_40.Seg, Lo := (w64 (x_40.Lo + by_3)), Hi := (w64 (x_40.Hi + by_3)) } : TOutcome)] : List TOutcome))).bind fun l_42 =>
      (M169 f_1 by_3 i_8 k_19 n_31) ((w64 (m_29 + 1))) l_42
     else
     (app 32 l_30 (([x_40] : List TOutcome))).bind fun l_43 =>
     (M169 f_1 by_3 i_8 k_19 n_31) ((w64 (m_29 + 1))) l_43
    else
    some l_30

def M170 (f_1 : TField) (by_3 : Int) (i_8 : Int) : Nat → Int → (List (List TOutcome)) → Option (List (List TOutcome))
  | 0, _, _ => none
  | n_21 + 1, k_19, l_20 =>
    (idx f_1.Runners i_8).bind fun x_25 =>
    bif decide (k_19 < (((x_25.Worlds).length : Int))) then
     (M169 f_1 by_3 i_8 k_19 ((((((Option.getD (idx (Option.getD (idx f_1.Runners i_8) default).Worlds k_19) default)).length : Int)) - 0 : Int).toNat + 1) 0 ((([] : List TOutcome)))).bind fun l_32 =>
     (app 24 l_20 (([l_32] : List (List TOutcome)))).bind fun l_45 =>
     (M170 f_1 by_3 i_8 n_21) ((w64 (k_19 + 1))) l_45
    else
    some l_20

def M171 (f_1 : TField) (by_3 : Int) : Nat → Int → (List TRunner) → Option (List TRunner)
  | 0, _, _ => none
  | n_10 + 1, i_8, l_9 =>
    bif decide (i_8 < (((f_1.Runners).length : Int))) then
     (idx f_1.Runners i_8).bind fun x_15 =>
     (idx f_1.Runners i_8).bind fun x_16 =>
     (M170 f_1 by_3 i_8 ((((((Option.getD (idx f_1.Runners i_8) default).Worlds).length : Int)) - 0 : Int).toNat + 1) 0 ((([] : List (List TOutcome))))).bind fun l_22 =>
     (app 56 l_9 (([({ Bib := x_15.Bib, Keys := x_16.Keys, Worlds := l_22 } : TRunner)] : List TRunner))).bind fun l_47 =>
     (M171 f_1 by_3 n_10) ((w64 (i_8 + 1))) l_47
    else
    some l_9

def M172 (f_1 : TField) (h_2 : THistory) (by_3 : Int) : Nat → Int → (List TChoice) → Option (List TChoice)
  | 0, _, _ => none
  | n_53 + 1, i_51, l_52 =>
    bif decide (i_51 < (((h_2.Choices).length : Int))) then
     (idx h_2.Choices i_51).bind fun x_58 =>
     Option.bind (
      bif decide (i_51 < (((f_1.Runners).length : Int))) then
       bif decide (h_2.World ≥ 0) then
        (idx f_1.Runners i_51).bind fun x_63 =>
        some (decide (h_2.World < (((x_63.Worlds).length : Int))))
       else
       some false
      else
      some false
     ) fun v_59 =>
     bif v_59 then
      (idx f_1.Runners i_51).bind fun x_65 =>
      (idx x_65.Worlds h_2.World).bind fun x_66 =>
      Option.bind (
       bif decide (x_58.Outcome ≥ 0) then
        bif decide (x_58.Outcome < (((x_66).length : Int))) then
         (idx x_66 x_58.Outcome).bind fun x_71 =>
         some (!x_71.Out)
        else
        some false
       else
       some false
      ) fun v_67 =>
      bif v_67 then
       (app 16 l_52 (([({ Outcome := x_58.Outcome, X := (w64 (x_58.X + by_3)) } : TChoice)] : List TChoice))).bind fun l_73 =>
       (M172 f_1 h_2 by_3 n_53) ((w64 (i_51 + 1))) l_73
      else
      (app 16 l_52 (([x_58] : List TChoice))).bind fun l_74 =>
      (M172 f_1 h_2 by_3 n_53) ((w64 (i_51 + 1))) l_74
     else
     (app 16 l_52 (([x_58] : List TChoice))).bind fun l_75 =>
     (M172 f_1 h_2 by_3 n_53) ((w64 (i_51 + 1))) l_75
    else
    some l_52

def M173 (f_1 : TField) (h_2 : THistory) (by_3 : Int) : Option (TField × THistory) :=
 (M171 f_1 by_3 (((((f_1.Runners).length : Int)) - 0 : Int).toNat + 1) 0 ((([] : List TRunner)))).bind fun l_11 =>
 (M172 f_1 h_2 by_3 (((((h_2.Choices).length : Int)) - 0 : Int).toNat + 1) 0 ((([] : List TChoice)))).bind fun l_54 =>
 some (({ Clocks := f_1.Clocks, Pairs := f_1.Pairs, Runners := l_11 } : TField), ({ World := h_2.World, Offsets := h_2.Offsets, Choices := l_54 } : THistory))

def M174 (f_1 : TField) (h_2 : THistory) (by_3 : Int) : Option (Bool) :=
 (M93).bind fun r_5 =>
 bif !r_5 then some false else
 Option.bind (
  (M102 f_1 h_2).bind fun r_10 =>
  bif !r_10 then some true else
  bif decide (by_3 < (-1099511627776)) then some true else
  bif decide (by_3 > 1099511627776) then some true else
  (M92 f_1 h_2).bind fun r_15 =>
  some (r_15 != 0)
 ) fun v_8 =>
 bif v_8 then some true else
 (M173 f_1 h_2 by_3).bind fun (r_18, r_19) =>
 (M46 r_18).bind fun r_21 =>
 bif r_21 != 0 then some true else
 (M88 f_1 h_2).bind fun (r_24, r_25) =>
 (M88 r_18 r_19).bind fun (r_27, r_28) =>
 bif r_25 == 0 then
  bif r_28 == 0 then
   (M167 r_24 r_27).bind fun r_32 =>
   some r_32
  else
  some false
 else
 some false

def M175 (i_28 : Int) (nx_33 : Bool → Int → (List TChoice) → Option (Bool)) (possible_36 : Bool) (l_37 : List TChoice) : Option (Bool) :=
 nx_33 possible_36 ((w64 (i_28 + 1))) l_37

def M176 (f_1 : TField) (world_2 : Int) (picks_3 : List Int) (k_34 : Bool → (List TChoice) → Option (Bool)) : Nat → Bool → Int → (List TChoice) → Option (Bool)
  | 0, _, _, _ => none
  | n_30 + 1, possible_27, i_28, l_29 =>
    bif decide (i_28 < (((f_1.Runners).length : Int))) then
     (idx f_1.Runners i_28).bind fun x_38 =>
     bif decide (world_2 ≥ (((x_38.Worlds).length : Int))) then some false else
     (idx f_1.Runners i_28).bind fun x_40 =>
     (idx x_40.Worlds world_2).bind fun x_41 =>
     bif (((x_41).length : Int)) == 0 then
      (app 16 l_29 (([({ Outcome := 0, X := 0 } : TChoice)] : List TChoice))).bind fun l_43 =>
      M175 i_28 (M176 f_1 world_2 picks_3 k_34 n_30) false l_43
     else
     bif decide (i_28 < (((picks_3).length : Int))) then
      (idx picks_3 i_28).bind fun x_45 =>
      (nz (((x_41).length : Int))).bind fun u_46 =>
      (idx x_41 (Int.tmod (w64 x_45) (((x_41).length : Int)))).bind fun x_47 =>
      bif !x_47.Out then
       (idx x_41 (Int.tmod (w64 x_45) (((x_41).length : Int)))).bind fun x_49 =>
       (app 16 l_29 (([({ Outcome := (Int.tmod (w64 x_45) (((x_41).length : Int))), X := x_49.Lo } : TChoice)] : List TChoice))).bind fun l_50 =>
       M175 i_28 (M176 f_1 world_2 picks_3 k_34 n_30) possible_27 l_50
      else
      (app 16 l_29 (([({ Outcome := (Int.tmod (w64 x_45) (((x_41).length : Int))), X := 0 } : TChoice)] : List TChoice))).bind fun l_51 =>
      M175 i_28 (M176 f_1 world_2 picks_3 k_34 n_30) possible_27 l_51
     else
     (idx x_41 0).bind fun x_52 =>
     bif !x_52.Out then
      (idx x_41 0).bind fun x_54 =>
      (app 16 l_29 (([({ Outcome := 0, X := x_54.Lo } : TChoice)] : List TChoice))).bind fun l_55 =>
      M175 i_28 (M176 f_1 world_2 picks_3 k_34 n_30) possible_27 l_55
     else
     (app 16 l_29 (([({ Outcome := 0, X := 0 } : TChoice)] : List TChoice))).bind fun l_56 =>
     M175 i_28 (M176 f_1 world_2 picks_3 k_34 n_30) possible_27 l_56
    else
    k_34 possible_27 l_29

def M177 (f_1 : TField) (world_2 : Int) (l_23 : List Int) (possible_31 : Bool) (l_32 : List TChoice) : Option (Bool) :=
 (M91 f_1 1048576).bind fun (r_57, r_58) =>
 (M92 f_1 ({ World := world_2, Offsets := l_23, Choices := l_32 } : THistory)).bind fun r_60 =>
 bif (r_60 == 0) == possible_31 then
  bif r_58 == 0 then some (decide (r_57 ≥ 1)) else
  some false
 else
 some false

def M178 (f_1 : TField) (world_2 : Int) (picks_3 : List Int) : Option (Bool) :=
 (M93).bind fun r_5 =>
 bif !r_5 then some false else
 (M100 f_1).bind fun r_8 =>
 bif !r_8 then some true else
 (M46 f_1).bind fun r_11 =>
 bif r_11 != 0 then some true else
 Option.bind (
  bif decide (world_2 < 0) then some true else
  bif decide (world_2 > (((f_1.Pairs).length : Int))) then some true else
  bif (((f_1.Clocks.Far).length : Int)) == 0 then some true else
  (idx f_1.Clocks.Far 0).bind fun x_19 =>
  some ((((x_19).length : Int)) != (w64 ((((f_1.Clocks.Segments).length : Int)) + 1)))
 ) fun v_14 =>
 bif v_14 then some true else
 (idx f_1.Clocks.Far 0).bind fun x_21 =>
 (slcFrom x_21 1).bind fun l_22 =>
 (app 8 (([] : List Int)) l_22).bind fun l_23 =>
 M176 f_1 world_2 picks_3 (M177 f_1 world_2 l_23) (((((f_1.Runners).length : Int)) - 0 : Int).toNat + 1) true 0 ((([] : List TChoice)))

def M179 (f_1 : TField) (h_2 : THistory) (runner_3 : Int) : Option (Int × Bool × Int) :=
 (M68 f_1 h_2 runner_3).bind fun (r_7, r_8) =>
 bif r_8 != 0 then some (0, false, r_8) else
 (M69 r_7 runner_3).bind fun (r_11, r_12) =>
 some (r_11, r_12, 0)

def M180 (f_1 : TField) (h_2 : THistory) (n_3 : Int) : Option (Int) :=
 (M148 f_1 h_2).bind fun r_5 =>
 bif r_5 == 0 then
  bif decide (n_3 < 0) then some 250 else
  bif decide (n_3 ≥ (((f_1.Runners).length : Int))) then some 250 else
  some r_5
 else
 some r_5

def M181 (f_1 : TField) (h_2 : THistory) (n_3 : Int) : Option (Int × Bool × Int) :=
 (M180 f_1 h_2 n_3).bind fun r_7 =>
 bif r_7 != 0 then some (0, false, r_7) else
 (M152 f_1 h_2 n_3).bind fun (r_10, r_11) =>
 some (r_10, r_11, 0)

def M182 (f_1 : TField) (h_2 : THistory) (n_3 : Int) : Option (Int × Int) :=
 (M180 f_1 h_2 n_3).bind fun r_6 =>
 bif r_6 != 0 then some (0, r_6) else
 (M158 f_1 h_2 n_3).bind fun r_9 =>
 some (r_9, 0)

def M183 (f_1 : TField) (h_2 : THistory) (runner_3 : Int) : Option (Bool) :=
 (M93).bind fun r_5 =>
 bif !r_5 then some false else
 (M102 f_1 h_2).bind fun r_8 =>
 bif !r_8 then some true else
 (M179 f_1 h_2 runner_3).bind fun (r_11, r_12, r_13) =>
 (M181 f_1 h_2 runner_3).bind fun (r_15, r_16, r_17) =>
 (M77 f_1 h_2 runner_3).bind fun (r_19, r_20) =>
 (M182 f_1 h_2 runner_3).bind fun (r_22, r_23) =>
 some ((r_11 == r_15) && ((r_12 == r_16) && ((r_13 == r_17) && ((r_19 == r_22) && (r_20 == r_23)))))

def M184 (f_1 : TField) (runners_2 : List Int) (k_11 : Unit → Option (Int)) : Nat → Int → Option (Int)
  | 0, _ => none
  | n_9 + 1, v_8 =>
    bif decide (v_8 < (((runners_2).length : Int))) then
     (idx runners_2 v_8).bind fun x_13 =>
     bif decide (x_13 < 0) then some 250 else
     bif decide (x_13 ≥ (((f_1.Runners).length : Int))) then some 250 else
     (M184 f_1 runners_2 k_11 n_9) ((w64 (v_8 + 1)))
    else
    k_11 ()

def M185 (_ : Unit) : Option (Int) :=
 some 0

def M186 (f_1 : TField) (runners_2 : List Int) : Option (Int) :=
 (M46 f_1).bind fun r_4 =>
 bif r_4 != 0 then some 240 else
 M184 f_1 runners_2 M185 (((((runners_2).length : Int)) - 0 : Int).toNat + 1) 0

def M187 (f_1 : TField) : Option (List TSegment × List (List Int) × List TPair × List TRunner) :=
 some (f_1.Clocks.Segments, f_1.Clocks.Far, f_1.Pairs, f_1.Runners)

def M188 (r_1 : TRunner) (c_2 : Int) : Option (Bool) :=
 (idx r_1.Worlds c_2).bind fun x_4 =>
 some ((((x_4).length : Int)) == 0)

def M189 (s_1 : List TRunner) (c_2 : Int) (k_8 : Unit → Option (Int)) : Nat → Int → Option (Int)
  | 0, _ => none
  | n_6 + 1, v_5 =>
    bif decide (v_5 < (((s_1).length : Int))) then
     (idx s_1 v_5).bind fun x_10 =>
     (M188 x_10 c_2).bind fun r_11 =>
     bif r_11 then some v_5 else
     (M189 s_1 c_2 k_8 n_6) ((w64 (v_5 + 1)))
    else
    k_8 ()

def M190 (_ : Unit) : Option (Int) :=
 some (-1)

def M191 (s_1 : List TRunner) (c_2 : Int) : Option (Int) :=
 M189 s_1 c_2 M190 (((((s_1).length : Int)) - 0 : Int).toNat + 1) 0

def M192 (s_1 : List TRunner) (c_2 : Int) : Option (Bool) :=
 (M191 s_1 c_2).bind fun r_4 =>
 some (decide (r_4 ≥ 0))

def M193 (c_3 : List TPair) (c_4 : List TRunner) (k_9 : Unit → Option (List Int)) : Nat → Int → Option (List Int)
  | 0, _ => none
  | n_7 + 1, v_6 =>
    bif decide (v_6 < (w64 ((((c_3).length : Int)) + 1))) then
     (M192 c_4 v_6).bind fun r_11 =>
     bif !r_11 then
      Option.bind (
       (M193 c_3 c_4 k_9 n_7) ((w64 (v_6 + 1)))
      ) fun l => some (v_6 :: l)
     else
     (M193 c_3 c_4 k_9 n_7) ((w64 (v_6 + 1)))
    else
    k_9 ()

def M194 (_ : Unit) : Option (List Int) :=
 some []

def M195 (c_1 : List TSegment) (c_2 : List (List Int)) (c_3 : List TPair) (c_4 : List TRunner) : Option (List Int) :=
 M193 c_3 c_4 M194 (((w64 ((((c_3).length : Int)) + 1)) - 0 : Int).toNat + 1) 0

def M196 (x_1 : TOutcome) : Option (Bool) :=
 some x_1.Out

def M197 (s_1 : List TOutcome) (k_7 : Unit → Option (Int)) : Nat → Int → Option (Int)
  | 0, _ => none
  | n_5 + 1, v_4 =>
    bif decide (v_4 < (((s_1).length : Int))) then
     (idx s_1 v_4).bind fun x_9 =>
     (M196 x_9).bind fun r_10 =>
     bif r_10 then some v_4 else
     (M197 s_1 k_7 n_5) ((w64 (v_4 + 1)))
    else
    k_7 ()

def M198 (_ : Unit) : Option (Int) :=
 some (-1)

def M199 (s_1 : List TOutcome) : Option (Int) :=
 M197 s_1 M198 (((((s_1).length : Int)) - 0 : Int).toNat + 1) 0

def M200 (s_1 : List TOutcome) : Option (Bool) :=
 (M199 s_1).bind fun r_3 =>
 some (decide (r_3 ≥ 0))

def M201 : Option (Unit) :=
 some ()

def M202 (n_1 : Int) (m_2 : Int) : Option (Bool) :=
 some (decide (n_1 < m_2))

def M203 (x_1 : TOutcome) : Option (Int) :=
 some x_1.Hi

def M204 (far_1 : List (List Int)) (a_2 : Int) (b_3 : Int) : Option (Int) :=
 (idx far_1 a_2).bind fun x_5 =>
 (idx x_5 b_3).bind fun x_6 =>
 some x_6

def M205 (x_1 : TOutcome) : Option (Int) :=
 some x_1.Lo

def M206 (f_1 : TField) (runner_2 : Int) (x_3 : TOutcome) (rival_4 : Int) (y_5 : TOutcome) : Option (Bool) :=
 bif y_5.Out then some false else
 (M203 y_5).bind fun r_8 =>
 (M204 f_1.Clocks.Far ((w64 (x_3.Seg + 1))) ((w64 (y_5.Seg + 1)))).bind fun r_10 =>
 (M205 x_3).bind fun r_12 =>
 bif decide ((w64 ((w64 (r_8 + r_10)) - r_12)) < 0) then some true else
 bif (w64 ((w64 (r_8 + r_10)) - r_12)) == 0 then
  (idx f_1.Runners rival_4).bind fun x_16 =>
  (idx f_1.Runners runner_2).bind fun x_17 =>
  (M74 x_16.Keys x_17.Keys).bind fun r_18 =>
  some (decide (r_18 < 0))
 else
 some false

def M207 (f_1 : TField) (runner_3 : Int) (x_4 : TOutcome) (rival_5 : Int) (r_8 : Bool) (x_11 : List TOutcome) (k_16 : Unit → Option (Int × Bool)) : Nat → Int → Option (Int × Bool)
  | 0, _ => none
  | n_14 + 1, v_13 =>
    bif decide (v_13 < (((x_11).length : Int))) then
     (idx x_11 v_13).bind fun x_18 =>
     (M206 f_1 runner_3 x_4 rival_5 x_18).bind fun r_19 =>
     bif r_19 == r_8 then some (v_13, r_8) else
     (M207 f_1 runner_3 x_4 rival_5 r_8 x_11 k_16 n_14) ((w64 (v_13 + 1)))
    else
    k_16 ()

def M208 (r_8 : Bool) (_ : Unit) : Option (Int × Bool) :=
 some (0, (!r_8))

def M209 (f_1 : TField) (w_2 : Int) (runner_3 : Int) (x_4 : TOutcome) (rival_5 : Int) : Option (Int × Bool) :=
 (M202 2 1).bind fun r_8 =>
 (idx f_1.Runners rival_5).bind fun x_10 =>
 (idx x_10.Worlds w_2).bind fun x_11 =>
 M207 f_1 runner_3 x_4 rival_5 r_8 x_11 (M208 r_8) (((((x_11).length : Int)) - 0 : Int).toNat + 1) 0

def M210 (f_1 : TField) (runner_2 : Int) (y_12 : Int) (x_42 : TOutcome) : Nat → Int → Int → Option (Int)
  | 0, _, _ => none
  | n_48 + 1, n_46, v_47 =>
    bif decide (v_47 < (((f_1.Runners).length : Int))) then
     bif v_47 == runner_2 then (M210 f_1 runner_2 y_12 x_42 n_48) n_46 ((w64 (v_47 + 1))) else
     (M209 f_1 y_12 runner_2 x_42 v_47).bind fun (r_54, r_55) =>
     bif r_55 then (M210 f_1 runner_2 y_12 x_42 n_48) ((w64 (n_46 + 1))) ((w64 (v_47 + 1))) else
     (M210 f_1 runner_2 y_12 x_42 n_48) n_46 ((w64 (v_47 + 1)))
    else
    some n_46

def M211 (f_1 : TField) (runner_2 : Int) (y_12 : Int) (x_23 : List TOutcome) : Nat → Int → Int → Int → Int → Bool → Option (Int × Int × Int × Bool)
  | 0, _, _, _, _, _ => none
  | n_34 + 1, v_29, v_30, v_31, v_32, v_33 =>
    bif decide (v_29 < (((x_23).length : Int))) then
     (idx x_23 v_29).bind fun x_42 =>
     bif x_42.Out then (M211 f_1 runner_2 y_12 x_23 n_34) ((w64 (v_29 + 1))) v_30 v_31 v_32 v_33 else
     (M210 f_1 runner_2 y_12 x_42 (((((f_1.Runners).length : Int)) - 0 : Int).toNat + 1) 1 0).bind fun n_49 =>
     Option.bind (
      bif !v_33 then some true else
      (M202 n_49 v_32).bind fun r_62 =>
      some r_62
     ) fun v_59 =>
     bif v_59 then (M211 f_1 runner_2 y_12 x_23 n_34) ((w64 (v_29 + 1))) y_12 v_29 n_49 true else
     (M211 f_1 runner_2 y_12 x_23 n_34) ((w64 (v_29 + 1))) v_30 v_31 v_32 v_33
    else
    some (v_30, v_31, v_32, v_33)

def M212 (f_1 : TField) (runner_2 : Int) (y : Int) (s : Int × Int × Int × Bool) : Option (Int × Int × Int × Bool) :=
  match y, s with
  | y_12, (v_17, v_18, v_19, v_20) =>
    (idx f_1.Runners runner_2).bind fun x_22 =>
    (idx x_22.Worlds y_12).bind fun x_23 =>
    (M211 f_1 runner_2 y_12 x_23 (((((x_23).length : Int)) - 0 : Int).toNat + 1) 0 v_17 v_18 v_19 v_20).bind fun (v_35, v_36, v_37, v_38) =>
    some (v_35, v_36, v_37, v_38)

def M213 (f_1 : TField) (runner_2 : Int) : Option (Tranks_place × Bool) :=
 (M187 f_1).bind fun (c_5, c_6, c_7, c_8) =>
 (M195 c_5 c_6 c_7 c_8).bind fun l_10 =>
 (foldO (M212 f_1 runner_2) l_10 (0, 0, 0, false)).bind fun (v_66, v_67, v_68, v_69) =>
 some (({ world := v_66, outcome := v_67, rank := v_68 } : Tranks_place), v_69)

def M214 : Option (Unit) :=
 some ()

def M215 (n_1 : Int) (m_2 : Int) : Option (Bool) :=
 some (decide (n_1 > m_2))

def M216 (far_1 : List (List Int)) (a_2 : Int) (b_3 : Int) : Option (Int) :=
 (idx far_1 b_3).bind fun x_5 =>
 (idx x_5 a_2).bind fun x_6 =>
 some (w64 (0 - x_6))

def M217 (f_1 : TField) (runner_2 : Int) (x_3 : TOutcome) (rival_4 : Int) (y_5 : TOutcome) : Option (Bool) :=
 bif y_5.Out then some false else
 (M205 y_5).bind fun r_8 =>
 (M216 f_1.Clocks.Far ((w64 (x_3.Seg + 1))) ((w64 (y_5.Seg + 1)))).bind fun r_10 =>
 (M203 x_3).bind fun r_12 =>
 bif decide ((w64 ((w64 (r_8 + r_10)) - r_12)) < 0) then some true else
 bif (w64 ((w64 (r_8 + r_10)) - r_12)) == 0 then
  (idx f_1.Runners rival_4).bind fun x_16 =>
  (idx f_1.Runners runner_2).bind fun x_17 =>
  (M74 x_16.Keys x_17.Keys).bind fun r_18 =>
  some (decide (r_18 < 0))
 else
 some false

def M218 (f_1 : TField) (runner_3 : Int) (x_4 : TOutcome) (rival_5 : Int) (r_8 : Bool) (x_11 : List TOutcome) (k_16 : Unit → Option (Int × Bool)) : Nat → Int → Option (Int × Bool)
  | 0, _ => none
  | n_14 + 1, v_13 =>
    bif decide (v_13 < (((x_11).length : Int))) then
     (idx x_11 v_13).bind fun x_18 =>
     (M217 f_1 runner_3 x_4 rival_5 x_18).bind fun r_19 =>
     bif r_19 == r_8 then some (v_13, r_8) else
     (M218 f_1 runner_3 x_4 rival_5 r_8 x_11 k_16 n_14) ((w64 (v_13 + 1)))
    else
    k_16 ()

def M219 (r_8 : Bool) (_ : Unit) : Option (Int × Bool) :=
 some (0, (!r_8))

def M220 (f_1 : TField) (w_2 : Int) (runner_3 : Int) (x_4 : TOutcome) (rival_5 : Int) : Option (Int × Bool) :=
 (M215 2 1).bind fun r_8 =>
 (idx f_1.Runners rival_5).bind fun x_10 =>
 (idx x_10.Worlds w_2).bind fun x_11 =>
 M218 f_1 runner_3 x_4 rival_5 r_8 x_11 (M219 r_8) (((((x_11).length : Int)) - 0 : Int).toNat + 1) 0

def M221 (f_1 : TField) (runner_2 : Int) (y_12 : Int) (x_42 : TOutcome) : Nat → Int → Int → Option (Int)
  | 0, _, _ => none
  | n_48 + 1, n_46, v_47 =>
    bif decide (v_47 < (((f_1.Runners).length : Int))) then
     bif v_47 == runner_2 then (M221 f_1 runner_2 y_12 x_42 n_48) n_46 ((w64 (v_47 + 1))) else
     (M220 f_1 y_12 runner_2 x_42 v_47).bind fun (r_54, r_55) =>
     bif r_55 then (M221 f_1 runner_2 y_12 x_42 n_48) ((w64 (n_46 + 1))) ((w64 (v_47 + 1))) else
     (M221 f_1 runner_2 y_12 x_42 n_48) n_46 ((w64 (v_47 + 1)))
    else
    some n_46

def M222 (f_1 : TField) (runner_2 : Int) (y_12 : Int) (x_23 : List TOutcome) : Nat → Int → Int → Int → Int → Bool → Option (Int × Int × Int × Bool)
  | 0, _, _, _, _, _ => none
  | n_34 + 1, v_29, v_30, v_31, v_32, v_33 =>
    bif decide (v_29 < (((x_23).length : Int))) then
     (idx x_23 v_29).bind fun x_42 =>
     bif x_42.Out then (M222 f_1 runner_2 y_12 x_23 n_34) ((w64 (v_29 + 1))) v_30 v_31 v_32 v_33 else
     (M221 f_1 runner_2 y_12 x_42 (((((f_1.Runners).length : Int)) - 0 : Int).toNat + 1) 1 0).bind fun n_49 =>
     Option.bind (
      bif !v_33 then some true else
      (M215 n_49 v_32).bind fun r_62 =>
      some r_62
     ) fun v_59 =>
     bif v_59 then (M222 f_1 runner_2 y_12 x_23 n_34) ((w64 (v_29 + 1))) y_12 v_29 n_49 true else
     (M222 f_1 runner_2 y_12 x_23 n_34) ((w64 (v_29 + 1))) v_30 v_31 v_32 v_33
    else
    some (v_30, v_31, v_32, v_33)

def M223 (f_1 : TField) (runner_2 : Int) (y : Int) (s : Int × Int × Int × Bool) : Option (Int × Int × Int × Bool) :=
  match y, s with
  | y_12, (v_17, v_18, v_19, v_20) =>
    (idx f_1.Runners runner_2).bind fun x_22 =>
    (idx x_22.Worlds y_12).bind fun x_23 =>
    (M222 f_1 runner_2 y_12 x_23 (((((x_23).length : Int)) - 0 : Int).toNat + 1) 0 v_17 v_18 v_19 v_20).bind fun (v_35, v_36, v_37, v_38) =>
    some (v_35, v_36, v_37, v_38)

def M224 (f_1 : TField) (runner_2 : Int) : Option (Tranks_place × Bool) :=
 (M187 f_1).bind fun (c_5, c_6, c_7, c_8) =>
 (M195 c_5 c_6 c_7 c_8).bind fun l_10 =>
 (foldO (M223 f_1 runner_2) l_10 (0, 0, 0, false)).bind fun (v_66, v_67, v_68, v_69) =>
 some (({ world := v_66, outcome := v_67, rank := v_68 } : Tranks_place), v_69)

def M225 (f_1 : TField) (runner_2 : Int) (y : Int) (s : Bool) : Option (Bool) :=
  match y, s with
  | y_12, v_14 =>
    bif v_14 then some true else
    (idx f_1.Runners runner_2).bind fun x_17 =>
    (idx x_17.Worlds y_12).bind fun x_18 =>
    (M200 x_18).bind fun r_19 =>
    some r_19

def M226 (f_1 : TField) (runner_2 : Int) : Option (TRank) :=
 (idx f_1.Runners runner_2).bind fun x_4 =>
 (M187 f_1).bind fun (c_5, c_6, c_7, c_8) =>
 (M195 c_5 c_6 c_7 c_8).bind fun l_10 =>
 (foldO (M225 f_1 runner_2) l_10 (false)).bind fun v_21 =>
 (M201).bind fun _ =>
 (M213 f_1 runner_2).bind fun (r_23, r_24) =>
 bif !r_24 then some ({ Bib := x_4.Bib, Kind := 3, Lo := 0, Hi := 0, Out := v_21 } : TRank) else
 (M214).bind fun _ =>
 (M224 f_1 runner_2).bind fun (r_28, r_29) =>
 bif r_23.rank == r_28.rank then
  bif !v_21 then some ({ Bib := x_4.Bib, Kind := 1, Lo := r_23.rank, Hi := r_28.rank, Out := v_21 } : TRank) else
  some ({ Bib := x_4.Bib, Kind := 2, Lo := r_23.rank, Hi := r_28.rank, Out := v_21 } : TRank)
 else
 some ({ Bib := x_4.Bib, Kind := 2, Lo := r_23.rank, Hi := r_28.rank, Out := v_21 } : TRank)

def M227 (f_1 : TField) (runner_2 : Int) : Option (TRank × Int) :=
 (M186 f_1 ((([runner_2] : List Int)))).bind fun r_5 =>
 bif r_5 != 0 then some (({ Bib := 0, Kind := 0, Lo := 0, Hi := 0, Out := false } : TRank), r_5) else
 (M226 f_1 runner_2).bind fun r_8 =>
 some (r_8, 0)

def M228 (f_1 : TField) (h_2 : THistory) (k_17 : Unit → Option (Bool)) : Nat → Int → Option (Bool)
  | 0, _ => none
  | n_15 + 1, i_14 =>
    bif decide (i_14 < (((f_1.Runners).length : Int))) then
     (M77 f_1 h_2 i_14).bind fun (r_19, r_20) =>
     (M227 f_1 i_14).bind fun (r_22, r_23) =>
     bif r_20 != 0 then some false else
     bif r_23 != 0 then some false else
     bif bif (r_19 == 0) then (bif r_22.Out then (bif (r_19 != 0) then ((r_22.Kind == 3) || ((decide (r_19 < r_22.Lo)) || ((decide (r_19 > r_22.Hi)) || ((r_22.Kind == 1) && (r_19 != r_22.Lo))))) else ((r_22.Kind == 1) && (r_19 != r_22.Lo))) else ((!(r_22.Kind == 3)) || ((r_19 != 0) || ((r_22.Kind == 1) && (r_19 != r_22.Lo))))) else (bif (r_19 != 0) then ((r_22.Kind == 3) || ((decide (r_19 < r_22.Lo)) || ((decide (r_19 > r_22.Hi)) || ((r_22.Kind == 1) && (r_19 != r_22.Lo))))) else ((r_22.Kind == 1) && (r_19 != r_22.Lo))) then some false else
     (M228 f_1 h_2 k_17 n_15) ((w64 (i_14 + 1)))
    else
    k_17 ()

def M229 (_ : Unit) : Option (Bool) :=
 some true

def M230 (f_1 : TField) (h_2 : THistory) : Option (Bool) :=
 (M93).bind fun r_4 =>
 bif !r_4 then some false else
 (M102 f_1 h_2).bind fun r_7 =>
 bif !r_7 then some true else
 (M92 f_1 h_2).bind fun r_10 =>
 bif r_10 != 0 then some true else
 M228 f_1 h_2 M229 (((((f_1.Runners).length : Int)) - 0 : Int).toNat + 1) 0

def M231 (k_1 : Int) (c_2 : Int) (c_3 : List TSegment) (c_4 : List (List Int)) (c_5 : List TPair) (c_6 : List TRunner) (c_7 : Int) : Option (Int) :=
 (M204 c_4 c_7 k_1).bind fun r_9 =>
 some (w64 (c_2 + r_9))

def M232 (f_1 : TField) (x_7 : TOutcome) (r_9 : Int) : Nat → Int → (List Int) → Option (List Int)
  | 0, _, _ => none
  | n_15 + 1, v_13, l_14 =>
    bif decide (v_13 < (((f_1.Clocks.Segments).length : Int))) then
     (M231 ((w64 (v_13 + 1))) ((w64 (0 - r_9))) f_1.Clocks.Segments f_1.Clocks.Far f_1.Pairs f_1.Runners ((w64 (x_7.Seg + 1)))).bind fun r_20 =>
     (app 8 l_14 (([r_20] : List Int))).bind fun l_22 =>
     (M232 f_1 x_7 r_9 n_15) ((w64 (v_13 + 1))) l_22
    else
    some l_14

def M233 (f_1 : TField) (runner_2 : Int) (p_3 : Tranks_place) (x_7 : TOutcome) : Nat → Int → (List TChoice) → Option (List TChoice)
  | 0, _, _ => none
  | n_28 + 1, v_26, l_27 =>
    bif decide (v_26 < (((f_1.Runners).length : Int))) then
     Option.bind (
      (idx f_1.Runners v_26).bind fun x_35 =>
      bif v_26 != runner_2 then
       (M209 f_1 p_3.world runner_2 x_7 v_26).bind fun (r_37, r_38) =>
       (idx x_35.Worlds p_3.world).bind fun x_40 =>
       (idx x_40 r_37).bind fun x_41 =>
       bif !x_41.Out then
        (M203 x_41).bind fun r_43 =>
        (app 16 l_27 (([({ Outcome := r_37, X := r_43 } : TChoice)] : List TChoice))).bind fun l_45 =>
        some l_45
       else
       (app 16 l_27 (([({ Outcome := r_37, X := 0 } : TChoice)] : List TChoice))).bind fun l_46 =>
       some l_46
      else
      (idx x_35.Worlds p_3.world).bind fun x_47 =>
      (idx x_47 p_3.outcome).bind fun x_48 =>
      bif !x_48.Out then
       (M205 x_48).bind fun r_50 =>
       (app 16 l_27 (([({ Outcome := p_3.outcome, X := r_50 } : TChoice)] : List TChoice))).bind fun l_52 =>
       some l_52
      else
      (app 16 l_27 (([({ Outcome := p_3.outcome, X := 0 } : TChoice)] : List TChoice))).bind fun l_53 =>
      some l_53
     ) fun l_33 =>
     (M233 f_1 runner_2 p_3 x_7 n_28) ((w64 (v_26 + 1))) l_33
    else
    some l_27

def M234 (f_1 : TField) (x_7 : TOutcome) : Nat → Int → (List Int) → Option (List Int)
  | 0, _, _ => none
  | n_59 + 1, v_57, l_58 =>
    bif decide (v_57 < (((f_1.Clocks.Segments).length : Int))) then
     (M231 ((w64 (v_57 + 1))) 0 f_1.Clocks.Segments f_1.Clocks.Far f_1.Pairs f_1.Runners ((w64 (x_7.Seg + 1)))).bind fun r_64 =>
     (app 8 l_58 (([r_64] : List Int))).bind fun l_66 =>
     (M234 f_1 x_7 n_59) ((w64 (v_57 + 1))) l_66
    else
    some l_58

def M235 (f_1 : TField) (runner_2 : Int) (p_3 : Tranks_place) (x_7 : TOutcome) : Nat → Int → (List TChoice) → Option (List TChoice)
  | 0, _, _ => none
  | n_72 + 1, v_70, l_71 =>
    bif decide (v_70 < (((f_1.Runners).length : Int))) then
     Option.bind (
      (idx f_1.Runners v_70).bind fun x_79 =>
      bif v_70 != runner_2 then
       (M209 f_1 p_3.world runner_2 x_7 v_70).bind fun (r_81, r_82) =>
       (idx x_79.Worlds p_3.world).bind fun x_84 =>
       (idx x_84 r_81).bind fun x_85 =>
       bif !x_85.Out then
        (M203 x_85).bind fun r_87 =>
        (app 16 l_71 (([({ Outcome := r_81, X := r_87 } : TChoice)] : List TChoice))).bind fun l_89 =>
        some l_89
       else
       (app 16 l_71 (([({ Outcome := r_81, X := 0 } : TChoice)] : List TChoice))).bind fun l_90 =>
       some l_90
      else
      (idx x_79.Worlds p_3.world).bind fun x_91 =>
      (idx x_91 p_3.outcome).bind fun x_92 =>
      bif !x_92.Out then
       (M205 x_92).bind fun r_94 =>
       (app 16 l_71 (([({ Outcome := p_3.outcome, X := r_94 } : TChoice)] : List TChoice))).bind fun l_96 =>
       some l_96
      else
      (app 16 l_71 (([({ Outcome := p_3.outcome, X := 0 } : TChoice)] : List TChoice))).bind fun l_97 =>
      some l_97
     ) fun l_77 =>
     (M235 f_1 runner_2 p_3 x_7 n_72) ((w64 (v_70 + 1))) l_77
    else
    some l_71

def M236 (f_1 : TField) (runner_2 : Int) (p_3 : Tranks_place) : Option (THistory) :=
 (idx f_1.Runners runner_2).bind fun x_5 =>
 (idx x_5.Worlds p_3.world).bind fun x_6 =>
 (idx x_6 p_3.outcome).bind fun x_7 =>
 bif decide ((w64 (x_7.Seg + 1)) > 0) then
  (M204 f_1.Clocks.Far ((w64 (x_7.Seg + 1))) 0).bind fun r_9 =>
  (M232 f_1 x_7 r_9 (((((f_1.Clocks.Segments).length : Int)) - 0 : Int).toNat + 1) 0 ((([] : List Int)))).bind fun l_16 =>
  (M233 f_1 runner_2 p_3 x_7 (((((f_1.Runners).length : Int)) - 0 : Int).toNat + 1) 0 ((([] : List TChoice)))).bind fun l_29 =>
  some ({ World := p_3.world, Offsets := l_16, Choices := l_29 } : THistory)
 else
 (M234 f_1 x_7 (((((f_1.Clocks.Segments).length : Int)) - 0 : Int).toNat + 1) 0 ((([] : List Int)))).bind fun l_60 =>
 (M235 f_1 runner_2 p_3 x_7 (((((f_1.Runners).length : Int)) - 0 : Int).toNat + 1) 0 ((([] : List TChoice)))).bind fun l_73 =>
 some ({ World := p_3.world, Offsets := l_60, Choices := l_73 } : THistory)

def M237 (f_1 : TField) (runner_2 : Int) : Option (THistory × Bool × Int) :=
 (M186 f_1 ((([runner_2] : List Int)))).bind fun r_6 =>
 bif r_6 != 0 then some (({ World := 0, Offsets := (([] : List Int)), Choices := (([] : List TChoice)) } : THistory), false, r_6) else
 (M213 f_1 runner_2).bind fun (r_9, r_10) =>
 bif !r_10 then some (({ World := 0, Offsets := (([] : List Int)), Choices := (([] : List TChoice)) } : THistory), false, 0) else
 (M236 f_1 runner_2 r_9).bind fun r_13 =>
 some (r_13, true, 0)

def M238 (f_1 : TField) (runner_2 : Int) : Option (THistory × Bool × Int) :=
 (M201).bind fun _ =>
 (M237 f_1 runner_2).bind fun (r_7, r_8, r_9) =>
 some (r_7, r_8, r_9)

def M239 (k_1 : Int) (c_2 : Int) (c_3 : List TSegment) (c_4 : List (List Int)) (c_5 : List TPair) (c_6 : List TRunner) (c_7 : Int) : Option (Int) :=
 (M216 c_4 c_7 k_1).bind fun r_9 =>
 some (w64 (c_2 + r_9))

def M240 (f_1 : TField) (x_7 : TOutcome) (r_9 : Int) : Nat → Int → (List Int) → Option (List Int)
  | 0, _, _ => none
  | n_15 + 1, v_13, l_14 =>
    bif decide (v_13 < (((f_1.Clocks.Segments).length : Int))) then
     (M239 ((w64 (v_13 + 1))) ((w64 (0 - r_9))) f_1.Clocks.Segments f_1.Clocks.Far f_1.Pairs f_1.Runners ((w64 (x_7.Seg + 1)))).bind fun r_20 =>
     (app 8 l_14 (([r_20] : List Int))).bind fun l_22 =>
     (M240 f_1 x_7 r_9 n_15) ((w64 (v_13 + 1))) l_22
    else
    some l_14

def M241 (f_1 : TField) (runner_2 : Int) (p_3 : Tranks_place) (x_7 : TOutcome) : Nat → Int → (List TChoice) → Option (List TChoice)
  | 0, _, _ => none
  | n_28 + 1, v_26, l_27 =>
    bif decide (v_26 < (((f_1.Runners).length : Int))) then
     Option.bind (
      (idx f_1.Runners v_26).bind fun x_35 =>
      bif v_26 != runner_2 then
       (M220 f_1 p_3.world runner_2 x_7 v_26).bind fun (r_37, r_38) =>
       (idx x_35.Worlds p_3.world).bind fun x_40 =>
       (idx x_40 r_37).bind fun x_41 =>
       bif !x_41.Out then
        (M205 x_41).bind fun r_43 =>
        (app 16 l_27 (([({ Outcome := r_37, X := r_43 } : TChoice)] : List TChoice))).bind fun l_45 =>
        some l_45
       else
       (app 16 l_27 (([({ Outcome := r_37, X := 0 } : TChoice)] : List TChoice))).bind fun l_46 =>
       some l_46
      else
      (idx x_35.Worlds p_3.world).bind fun x_47 =>
      (idx x_47 p_3.outcome).bind fun x_48 =>
      bif !x_48.Out then
       (M203 x_48).bind fun r_50 =>
       (app 16 l_27 (([({ Outcome := p_3.outcome, X := r_50 } : TChoice)] : List TChoice))).bind fun l_52 =>
       some l_52
      else
      (app 16 l_27 (([({ Outcome := p_3.outcome, X := 0 } : TChoice)] : List TChoice))).bind fun l_53 =>
      some l_53
     ) fun l_33 =>
     (M241 f_1 runner_2 p_3 x_7 n_28) ((w64 (v_26 + 1))) l_33
    else
    some l_27

def M242 (f_1 : TField) (x_7 : TOutcome) : Nat → Int → (List Int) → Option (List Int)
  | 0, _, _ => none
  | n_59 + 1, v_57, l_58 =>
    bif decide (v_57 < (((f_1.Clocks.Segments).length : Int))) then
     (M239 ((w64 (v_57 + 1))) 0 f_1.Clocks.Segments f_1.Clocks.Far f_1.Pairs f_1.Runners ((w64 (x_7.Seg + 1)))).bind fun r_64 =>
     (app 8 l_58 (([r_64] : List Int))).bind fun l_66 =>
     (M242 f_1 x_7 n_59) ((w64 (v_57 + 1))) l_66
    else
    some l_58

def M243 (f_1 : TField) (runner_2 : Int) (p_3 : Tranks_place) (x_7 : TOutcome) : Nat → Int → (List TChoice) → Option (List TChoice)
  | 0, _, _ => none
  | n_72 + 1, v_70, l_71 =>
    bif decide (v_70 < (((f_1.Runners).length : Int))) then
     Option.bind (
      (idx f_1.Runners v_70).bind fun x_79 =>
      bif v_70 != runner_2 then
       (M220 f_1 p_3.world runner_2 x_7 v_70).bind fun (r_81, r_82) =>
       (idx x_79.Worlds p_3.world).bind fun x_84 =>
       (idx x_84 r_81).bind fun x_85 =>
       bif !x_85.Out then
        (M205 x_85).bind fun r_87 =>
        (app 16 l_71 (([({ Outcome := r_81, X := r_87 } : TChoice)] : List TChoice))).bind fun l_89 =>
        some l_89
       else
       (app 16 l_71 (([({ Outcome := r_81, X := 0 } : TChoice)] : List TChoice))).bind fun l_90 =>
       some l_90
      else
      (idx x_79.Worlds p_3.world).bind fun x_91 =>
      (idx x_91 p_3.outcome).bind fun x_92 =>
      bif !x_92.Out then
       (M203 x_92).bind fun r_94 =>
       (app 16 l_71 (([({ Outcome := p_3.outcome, X := r_94 } : TChoice)] : List TChoice))).bind fun l_96 =>
       some l_96
      else
      (app 16 l_71 (([({ Outcome := p_3.outcome, X := 0 } : TChoice)] : List TChoice))).bind fun l_97 =>
      some l_97
     ) fun l_77 =>
     (M243 f_1 runner_2 p_3 x_7 n_72) ((w64 (v_70 + 1))) l_77
    else
    some l_71

def M244 (f_1 : TField) (runner_2 : Int) (p_3 : Tranks_place) : Option (THistory) :=
 (idx f_1.Runners runner_2).bind fun x_5 =>
 (idx x_5.Worlds p_3.world).bind fun x_6 =>
 (idx x_6 p_3.outcome).bind fun x_7 =>
 bif decide ((w64 (x_7.Seg + 1)) > 0) then
  (M216 f_1.Clocks.Far ((w64 (x_7.Seg + 1))) 0).bind fun r_9 =>
  (M240 f_1 x_7 r_9 (((((f_1.Clocks.Segments).length : Int)) - 0 : Int).toNat + 1) 0 ((([] : List Int)))).bind fun l_16 =>
  (M241 f_1 runner_2 p_3 x_7 (((((f_1.Runners).length : Int)) - 0 : Int).toNat + 1) 0 ((([] : List TChoice)))).bind fun l_29 =>
  some ({ World := p_3.world, Offsets := l_16, Choices := l_29 } : THistory)
 else
 (M242 f_1 x_7 (((((f_1.Clocks.Segments).length : Int)) - 0 : Int).toNat + 1) 0 ((([] : List Int)))).bind fun l_60 =>
 (M243 f_1 runner_2 p_3 x_7 (((((f_1.Runners).length : Int)) - 0 : Int).toNat + 1) 0 ((([] : List TChoice)))).bind fun l_73 =>
 some ({ World := p_3.world, Offsets := l_60, Choices := l_73 } : THistory)

def M245 (f_1 : TField) (runner_2 : Int) : Option (THistory × Bool × Int) :=
 (M186 f_1 ((([runner_2] : List Int)))).bind fun r_6 =>
 bif r_6 != 0 then some (({ World := 0, Offsets := (([] : List Int)), Choices := (([] : List TChoice)) } : THistory), false, r_6) else
 (M224 f_1 runner_2).bind fun (r_9, r_10) =>
 bif !r_10 then some (({ World := 0, Offsets := (([] : List Int)), Choices := (([] : List TChoice)) } : THistory), false, 0) else
 (M244 f_1 runner_2 r_9).bind fun r_13 =>
 some (r_13, true, 0)

def M246 (f_1 : TField) (runner_2 : Int) : Option (THistory × Bool × Int) :=
 (M214).bind fun _ =>
 (M245 f_1 runner_2).bind fun (r_7, r_8, r_9) =>
 some (r_7, r_8, r_9)

def M247 (f_1 : TField) (runner_2 : Int) : Option (Bool) :=
 (M93).bind fun r_4 =>
 bif !r_4 then some false else
 (M100 f_1).bind fun r_7 =>
 bif !r_7 then some true else
 (M227 f_1 runner_2).bind fun (r_10, r_11) =>
 (M238 f_1 runner_2).bind fun (r_13, r_14, r_15) =>
 (M246 f_1 runner_2).bind fun (r_17, r_18, r_19) =>
 bif r_11 != 0 then some ((r_15 == r_11) && ((r_19 == r_11) && ((!r_14) && (!r_18)))) else
 bif (r_15 != 0) || ((r_19 != 0) || ((!(r_14 == r_18)) || (!(r_14 == (r_10.Kind != 3))))) then some false else
 bif !r_14 then some true else
 (M77 f_1 r_13 runner_2).bind fun (r_32, r_33) =>
 (M77 f_1 r_17 runner_2).bind fun (r_35, r_36) =>
 some ((r_33 == 0) && ((r_36 == 0) && ((r_32 == r_10.Lo) && (r_35 == r_10.Hi))))
end Go.Stop
