/- Models of functions, by program (gen.py). No condition. -/
import Derived.Test.YthandbiapckgkaaB7
namespace Go.Stop
open Go Go.Abs
set_option linter.unusedVariables false

structure TSegment where
  Mat : Int
  Epoch : Int
  Anchor : Int
  deriving DecidableEq, Inhabited

structure TClocks where
  Segments : List TSegment
  Far : List (List Int)
  deriving DecidableEq, Inhabited

structure TPair where
  A : Int
  B : Int
  deriving DecidableEq, Inhabited

structure TOutcome where
  Out : Bool
  Seg : Int
  Lo : Int
  Hi : Int
  deriving DecidableEq, Inhabited

structure TRunner where
  Bib : Int
  Keys : List Int
  Worlds : List (List TOutcome)
  deriving DecidableEq, Inhabited

structure TField where
  Clocks : TClocks
  Pairs : List TPair
  Runners : List TRunner
  deriving DecidableEq, Inhabited

structure TChoice where
  Outcome : Int
  X : Int
  deriving DecidableEq, Inhabited

structure THistory where
  World : Int
  Offsets : List Int
  Choices : List TChoice
  deriving DecidableEq, Inhabited

structure TRank where
  Bib : Int
  Kind : Int
  Lo : Int
  Hi : Int
  Out : Bool
  deriving DecidableEq, Inhabited

structure Tranks_place where
  world : Int
  outcome : Int
  rank : Int
  deriving DecidableEq, Inhabited

structure Tclocks_place where
  mat : Int
  epoch : Int
  deriving DecidableEq, Inhabited

def eTSegment (x : TSegment) : D := .ag [(.i .i64 x.Mat), (.i .i64 x.Epoch), (.i .i64 x.Anchor)]

def eTClocks (x : TClocks) : D := .ag [(.ls (List.map eTSegment x.Segments)), (.ls (List.map (eL eI) x.Far))]

def eTPair (x : TPair) : D := .ag [(.i .i64 x.A), (.i .i64 x.B)]

def eTOutcome (x : TOutcome) : D := .ag [(.b x.Out), (.i .i64 x.Seg), (.i .i64 x.Lo), (.i .i64 x.Hi)]

def eTRunner (x : TRunner) : D := .ag [(.i .i64 x.Bib), (.ls (List.map eI x.Keys)), (.ls (List.map (eL eTOutcome) x.Worlds))]

def eTField (x : TField) : D := .ag [(.ls (List.map eTSegment x.Clocks.Segments)), (.ls (List.map (eL eI) x.Clocks.Far)), (.ls (List.map eTPair x.Pairs)), (.ls (List.map eTRunner x.Runners))]

def eTChoice (x : TChoice) : D := .ag [(.i .i64 x.Outcome), (.i .i64 x.X)]

def eTHistory (x : THistory) : D := .ag [(.i .i64 x.World), (.ls (List.map eI x.Offsets)), (.ls (List.map eTChoice x.Choices))]

def eTRank (x : TRank) : D := .ag [(.i .i64 x.Bib), (.i .i64 x.Kind), (.i .i64 x.Lo), (.i .i64 x.Hi), (.b x.Out)]

def eTranks_place (x : Tranks_place) : D := .ag [(.i .i64 x.world), (.i .i64 x.outcome), (.i .i64 x.rank)]

def eTclocks_place (x : Tclocks_place) : D := .ag [(.i .i64 x.mat), (.i .i64 x.epoch)]

def m_stopwatchlaw25_simple_L1 (times_1 : List Int) : Nat → Int → (List TRunner) → Option (List TRunner)
  | 0, _, _ => none
  | n_7 + 1, i_5, l_6 =>
    bif decide ((w64 (i_5 + 1)) < (((times_1).length : Int))) then
      (idx times_1 i_5).bind fun x_12 =>
      (idx times_1 (w64 (i_5 + 1))).bind fun x_13 =>
      (app 56 l_6 (([({ Bib := (w64 (i_5 + 1)), Keys := (([] : List Int)), Worlds := (([(([({ Out := false, Seg := (-1), Lo := x_12, Hi := x_13 } : TOutcome)] : List TOutcome))] : List (List TOutcome))) } : TRunner)] : List TRunner))).bind fun l_14 =>
      (m_stopwatchlaw25_simple_L1 times_1 n_7) ((w64 (i_5 + 2))) l_14
    else
    some l_6

def m_stopwatchlaw25_simple (times_1 : List Int) : Option (TField) :=
  (m_stopwatchlaw25_simple_L1 times_1 (((((times_1).length : Int)) - (w64 (0 + 1)) : Int).toNat + 1) 0 ((([] : List TRunner)))).bind fun l_8 =>
  some ({ Clocks := ({ Segments := (([] : List TSegment)), Far := (([(([0] : List Int))] : List (List Int))) } : TClocks), Pairs := (([] : List TPair)), Runners := l_8 } : TField)

def m_clocks_isTime (n_1 : Int) : Option (Bool) :=
  bif decide (n_1 ≥ (-1099511627776)) then some (decide (n_1 ≤ 1099511627776)) else
  some false

def m_cmp_isNaN_int (x_1 : Int) : Option (Bool) :=
  some (x_1 != x_1)

def m_cmp_Compare_int (x_1 : Int) (y_2 : Int) : Option (Int) :=
  (m_cmp_isNaN_int x_1).bind fun r_4 =>
  (m_cmp_isNaN_int y_2).bind fun r_6 =>
  bif r_4 then
    bif r_6 then some 0 else
    some (-1)
  else
  bif r_6 then some 1 else
  bif decide (x_1 < y_2) then some (-1) else
  bif decide (x_1 > y_2) then some 1 else
  some 0

def m_cmp_Or_int_L1 (vals_1 : List Int) (k_7 : Unit → Option (Int)) : Nat → Int → Option (Int)
  | 0, _ => none
  | n_5 + 1, v_4 =>
    bif decide (v_4 < (((vals_1).length : Int))) then
      (idx vals_1 v_4).bind fun x_9 =>
      bif x_9 != 0 then some x_9 else
      (m_cmp_Or_int_L1 vals_1 k_7 n_5) ((w64 (v_4 + 1)))
    else
    k_7 ()

def m_cmp_Or_int_J2 (_ : Unit) : Option (Int) :=
  some 0

def m_cmp_Or_int (vals_1 : List Int) : Option (Int) :=
  m_cmp_Or_int_L1 vals_1 m_cmp_Or_int_J2 (((((vals_1).length : Int)) - 0 : Int).toNat + 1) 0

def m_clocks_place_compare (p_1 : Tclocks_place) (q_2 : Tclocks_place) : Option (Int) :=
  (m_cmp_Compare_int p_1.mat q_2.mat).bind fun r_4 =>
  (m_cmp_Compare_int p_1.epoch q_2.epoch).bind fun r_6 =>
  (m_cmp_Or_int ((([r_4, r_6] : List Int)))).bind fun r_8 =>
  some r_8

def m_clocks_order (a_1 : TSegment) (b_2 : TSegment) : Option (Int) :=
  (m_clocks_place_compare ({ mat := a_1.Mat, epoch := a_1.Epoch } : Tclocks_place) ({ mat := b_2.Mat, epoch := b_2.Epoch } : Tclocks_place)).bind fun r_4 =>
  some r_4

def m_clocks_Check_1 (w_1 : Int) : Option (Bool) :=
  bif decide (w_1 < (-2199023255552)) then some true else
  some (decide (w_1 > 2199023255552))

def m_slices_IndexFunc_int_int_with_clocks_Check_1_L1 (s_1 : List Int) (k_7 : Unit → Option (Int)) : Nat → Int → Option (Int)
  | 0, _ => none
  | n_5 + 1, v_4 =>
    bif decide (v_4 < (((s_1).length : Int))) then
      (idx s_1 v_4).bind fun x_9 =>
      (m_clocks_Check_1 x_9).bind fun r_10 =>
      bif r_10 then some v_4 else
      (m_slices_IndexFunc_int_int_with_clocks_Check_1_L1 s_1 k_7 n_5) ((w64 (v_4 + 1)))
    else
    k_7 ()

def m_slices_IndexFunc_int_int_with_clocks_Check_1_J2 (_ : Unit) : Option (Int) :=
  some (-1)

def m_slices_IndexFunc_int_int_with_clocks_Check_1 (s_1 : List Int) : Option (Int) :=
  m_slices_IndexFunc_int_int_with_clocks_Check_1_L1 s_1 m_slices_IndexFunc_int_int_with_clocks_Check_1_J2 (((((s_1).length : Int)) - 0 : Int).toNat + 1) 0

def m_slices_ContainsFunc_int_int_with_clocks_Check_1 (s_1 : List Int) : Option (Bool) :=
  (m_slices_IndexFunc_int_int_with_clocks_Check_1 s_1).bind fun r_3 =>
  some (decide (r_3 ≥ 0))

def m_clocks_Check_L1 (k_1 : TClocks) (k_9 : Unit → Option (Int)) : Nat → Int → Option (Int)
  | 0, _ => none
  | n_7 + 1, v_6 =>
    bif decide (v_6 < (((k_1.Segments).length : Int))) then
      (idx k_1.Segments v_6).bind fun x_11 =>
      Option.bind (
        bif decide (x_11.Mat < 0) then some true else
        bif decide (x_11.Mat ≥ 40) then some true else
        bif decide (x_11.Epoch < 0) then some true else
        bif decide (x_11.Epoch > 255) then some true else
        (m_clocks_isTime x_11.Anchor).bind fun r_18 =>
        bif !r_18 then some true else
        bif decide (v_6 > 0) then
          (idx k_1.Segments (w64 (v_6 - 1))).bind fun x_22 =>
          (m_clocks_order x_22 x_11).bind fun r_23 =>
          some (decide (r_23 ≥ 0))
        else
        some false
      ) fun v_12 =>
      bif v_12 then some 160 else
      (m_clocks_Check_L1 k_1 k_9 n_7) ((w64 (v_6 + 1)))
    else
    k_9 ()

def m_clocks_Check_L2 (k_1 : TClocks) (k_30 : Unit → Option (Int)) : Nat → Int → Option (Int)
  | 0, _ => none
  | n_28 + 1, v_27 =>
    bif decide (v_27 < (((k_1.Far).length : Int))) then
      (idx k_1.Far v_27).bind fun x_32 =>
      bif (((x_32).length : Int)) != (w64 ((((k_1.Segments).length : Int)) + 1)) then some 160 else
      (idx x_32 v_27).bind fun x_34 =>
      bif x_34 != 0 then some 160 else
      (m_slices_ContainsFunc_int_int_with_clocks_Check_1 x_32).bind fun r_36 =>
      bif r_36 then some 160 else
      (m_clocks_Check_L2 k_1 k_30 n_28) ((w64 (v_27 + 1)))
    else
    k_30 ()

def m_clocks_Check_L5 (k_1 : TClocks) (v_40 : Int) (x_52 : Int) (x_53 : List Int) (k_58 : Unit → Option (Int)) : Nat → Int → Option (Int)
  | 0, _ => none
  | n_56 + 1, v_55 =>
    bif decide (v_55 < (((x_53).length : Int))) then
      (idx x_53 v_55).bind fun x_60 =>
      (idx k_1.Far v_40).bind fun x_61 =>
      (idx x_61 v_55).bind fun x_62 =>
      bif decide (x_62 > (w64 (x_52 + x_60))) then some 160 else
      (m_clocks_Check_L5 k_1 v_40 x_52 x_53 k_58 n_56) ((w64 (v_55 + 1)))
    else
    k_58 ()

def m_clocks_Check_J6 (v_47 : Int) (nx_49 : Int → Option (Int)) (_ : Unit) : Option (Int) :=
  nx_49 ((w64 (v_47 + 1)))

def m_clocks_Check_L4 (k_1 : TClocks) (v_40 : Int) (x_45 : List Int) (k_50 : Unit → Option (Int)) : Nat → Int → Option (Int)
  | 0, _ => none
  | n_48 + 1, v_47 =>
    bif decide (v_47 < (((x_45).length : Int))) then
      (idx x_45 v_47).bind fun x_52 =>
      (idx k_1.Far v_47).bind fun x_53 =>
      m_clocks_Check_L5 k_1 v_40 x_52 x_53 (m_clocks_Check_J6 v_47 (m_clocks_Check_L4 k_1 v_40 x_45 k_50 n_48)) (((((x_53).length : Int)) - 0 : Int).toNat + 1) 0
    else
    k_50 ()

def m_clocks_Check_J7 (v_40 : Int) (nx_42 : Int → Option (Int)) (_ : Unit) : Option (Int) :=
  nx_42 ((w64 (v_40 + 1)))

def m_clocks_Check_L3 (k_1 : TClocks) (k_43 : Unit → Option (Int)) : Nat → Int → Option (Int)
  | 0, _ => none
  | n_41 + 1, v_40 =>
    bif decide (v_40 < (w64 ((((k_1.Segments).length : Int)) + 1))) then
      (idx k_1.Far v_40).bind fun x_45 =>
      m_clocks_Check_L4 k_1 v_40 x_45 (m_clocks_Check_J7 v_40 (m_clocks_Check_L3 k_1 k_43 n_41)) (((((x_45).length : Int)) - 0 : Int).toNat + 1) 0
    else
    k_43 ()

def m_clocks_Check_J8 (_ : Unit) : Option (Int) :=
  some 0

def m_clocks_Check_J9 (k_1 : TClocks) (_ : Unit) : Option (Int) :=
  m_clocks_Check_L3 k_1 m_clocks_Check_J8 (((w64 ((((k_1.Segments).length : Int)) + 1)) - 0 : Int).toNat + 1) 0

def m_clocks_Check_J10 (k_1 : TClocks) (_ : Unit) : Option (Int) :=
  m_clocks_Check_L2 k_1 (m_clocks_Check_J9 k_1) (((((k_1.Far).length : Int)) - 0 : Int).toNat + 1) 0

def m_clocks_Check (k_1 : TClocks) : Option (Int) :=
  bif decide ((((k_1.Segments).length : Int)) > 511) then some 160 else
  bif (((k_1.Far).length : Int)) != (w64 ((((k_1.Segments).length : Int)) + 1)) then some 160 else
  m_clocks_Check_L1 k_1 (m_clocks_Check_J10 k_1) (((((k_1.Segments).length : Int)) - 0 : Int).toNat + 1) 0

def m_slices_Concat_Outcome_Outcome_L1 (slices_1 : List (List TOutcome)) : Nat → Int → Int → Option (Int)
  | 0, _, _ => none
  | n_7 + 1, size_5, v_6 =>
    bif decide (v_6 < (((slices_1).length : Int))) then
      (idx slices_1 v_6).bind fun x_12 =>
      bif decide ((w64 (size_5 + (((x_12).length : Int)))) < 0) then none else
      (m_slices_Concat_Outcome_Outcome_L1 slices_1 n_7) ((w64 (size_5 + (((x_12).length : Int))))) ((w64 (v_6 + 1)))
    else
    some size_5

def m_slices_Concat_Outcome_Outcome_L2 (slices_1 : List (List TOutcome)) : Nat → Int → (List TOutcome) → Option (List TOutcome)
  | 0, _, _ => none
  | n_23 + 1, v_21, l_22 =>
    bif decide (v_21 < (((slices_1).length : Int))) then
      (idx slices_1 v_21).bind fun x_28 =>
      (app 32 l_22 x_28).bind fun l_29 =>
      (m_slices_Concat_Outcome_Outcome_L2 slices_1 n_23) ((w64 (v_21 + 1))) l_29
    else
    some l_22

def m_slices_Concat_Outcome_Outcome_L3 (slices_1 : List (List TOutcome)) : Nat → Int → (List TOutcome) → Option (List TOutcome)
  | 0, _, _ => none
  | n_35 + 1, v_33, l_34 =>
    bif decide (v_33 < (((slices_1).length : Int))) then
      (idx slices_1 v_33).bind fun x_40 =>
      (app 32 l_34 x_40).bind fun l_41 =>
      (m_slices_Concat_Outcome_Outcome_L3 slices_1 n_35) ((w64 (v_33 + 1))) l_41
    else
    some l_34

def m_slices_Concat_Outcome_Outcome (slices_1 : List (List TOutcome)) : Option (List TOutcome) :=
  (m_slices_Concat_Outcome_Outcome_L1 slices_1 (((((slices_1).length : Int)) - 0 : Int).toNat + 1) 0 0).bind fun size_8 =>
  bif decide (size_8 < 0) then none else
  bif decide ((w64 (size_8 - 0)) > 0) then
    (mkZ 32 (w64 (size_8 - 0))).bind fun n_17 =>
    (slcTo (List.replicate n_17 ({ Out := false, Seg := 0, Lo := 0, Hi := 0 } : TOutcome)) 0).bind fun l_18 =>
    (m_slices_Concat_Outcome_Outcome_L2 slices_1 (((((slices_1).length : Int)) - 0 : Int).toNat + 1) 0 l_18).bind fun l_24 =>
    some l_24
  else
  (m_slices_Concat_Outcome_Outcome_L3 slices_1 (((((slices_1).length : Int)) - 0 : Int).toNat + 1) 0 ((([] : List TOutcome)))).bind fun l_36 =>
  some l_36

def m_outcome_out : Option (TOutcome) :=
  some ({ Out := true, Seg := (-1), Lo := 0, Hi := 0 } : TOutcome)

def m_outcome_Check (k_1 : TClocks) (x_2 : TOutcome) : Option (Int) :=
  (m_clocks_Check k_1).bind fun r_4 =>
  bif r_4 != 0 then some r_4 else
  bif x_2.Out then
    (m_outcome_out).bind fun r_13 =>
    bif !((x_2.Out == r_13.Out) && ((x_2.Seg == r_13.Seg) && ((x_2.Lo == r_13.Lo) && ((x_2.Hi == r_13.Hi) && true)))) then some 230 else
    some 0
  else
  bif !((decide (x_2.Seg ≥ (-1))) && ((decide (x_2.Seg < (((k_1.Segments).length : Int)))) && ((decide (x_2.Lo ≥ (-288230376151711744))) && ((decide (x_2.Lo ≤ x_2.Hi)) && (decide (x_2.Hi ≤ 288230376151711744)))))) then some 230 else
  some 0

def m_field_possible_1 (r_1 : TRunner) (c_2 : Int) : Option (Bool) :=
  (idx r_1.Worlds c_2).bind fun x_4 =>
  some ((((x_4).length : Int)) == 0)

def m_slices_IndexFunc_Runner_Runner_with_field_possible_1_L1 (s_1 : List TRunner) (c_2 : Int) (k_8 : Unit → Option (Int)) : Nat → Int → Option (Int)
  | 0, _ => none
  | n_6 + 1, v_5 =>
    bif decide (v_5 < (((s_1).length : Int))) then
      (idx s_1 v_5).bind fun x_10 =>
      (m_field_possible_1 x_10 c_2).bind fun r_11 =>
      bif r_11 then some v_5 else
      (m_slices_IndexFunc_Runner_Runner_with_field_possible_1_L1 s_1 c_2 k_8 n_6) ((w64 (v_5 + 1)))
    else
    k_8 ()

def m_slices_IndexFunc_Runner_Runner_with_field_possible_1_J2 (_ : Unit) : Option (Int) :=
  some (-1)

def m_slices_IndexFunc_Runner_Runner_with_field_possible_1 (s_1 : List TRunner) (c_2 : Int) : Option (Int) :=
  m_slices_IndexFunc_Runner_Runner_with_field_possible_1_L1 s_1 c_2 m_slices_IndexFunc_Runner_Runner_with_field_possible_1_J2 (((((s_1).length : Int)) - 0 : Int).toNat + 1) 0

def m_slices_ContainsFunc_Runner_Runner_with_field_possible_1 (s_1 : List TRunner) (c_2 : Int) : Option (Bool) :=
  (m_slices_IndexFunc_Runner_Runner_with_field_possible_1 s_1 c_2).bind fun r_4 =>
  some (decide (r_4 ≥ 0))

def m_field_possible_L1 (f_1 : TField) (k_7 : Unit → Option (Bool)) : Nat → Int → Option (Bool)
  | 0, _ => none
  | n_5 + 1, v_4 =>
    bif decide (v_4 < (w64 ((((f_1.Pairs).length : Int)) + 1))) then
      (m_slices_ContainsFunc_Runner_Runner_with_field_possible_1 f_1.Runners v_4).bind fun r_9 =>
      bif !r_9 then some true else
      (m_field_possible_L1 f_1 k_7 n_5) ((w64 (v_4 + 1)))
    else
    k_7 ()

def m_field_possible_J2 (_ : Unit) : Option (Bool) :=
  some false

def m_field_possible (f_1 : TField) : Option (Bool) :=
  m_field_possible_L1 f_1 m_field_possible_J2 (((w64 ((((f_1.Pairs).length : Int)) + 1)) - 0 : Int).toNat + 1) 0

def m_field_Check_L1 (f_1 : TField) (k_19 : Unit → Option (Int)) : Nat → Int → Int → Int → Option (Int)
  | 0, _, _, _ => none
  | n_17 + 1, v_14, v_15, v_16 =>
    bif decide (v_14 < (((f_1.Pairs).length : Int))) then
      (idx f_1.Pairs v_14).bind fun x_21 =>
      bif (decide (x_21.A < 1)) || ((decide (x_21.A ≥ x_21.B)) || ((decide (x_21.B > 9999)) || ((decide (x_21.A < v_15)) || ((x_21.A == v_15) && (decide (x_21.B ≤ v_16)))))) then some 240 else
      (m_field_Check_L1 f_1 k_19 n_17) ((w64 (v_14 + 1))) x_21.A x_21.B
    else
    k_19 ()

def m_field_Check_L3 (f_1 : TField) (r_45 : List TOutcome) (k_51 : Unit → Option (Int)) : Nat → Int → Option (Int)
  | 0, _ => none
  | n_49 + 1, v_48 =>
    bif decide (v_48 < (((r_45).length : Int))) then
      (idx r_45 v_48).bind fun x_53 =>
      (m_outcome_Check f_1.Clocks x_53).bind fun r_54 =>
      bif r_54 != 0 then some 240 else
      (m_field_Check_L3 f_1 r_45 k_51 n_49) ((w64 (v_48 + 1)))
    else
    k_51 ()

def m_field_Check_J4 (v_32 : Int) (nx_34 : Int → Int → Option (Int)) (x_37 : TRunner) (_ : Unit) : Option (Int) :=
  nx_34 x_37.Bib ((w64 (v_32 + 1)))

def m_field_Check_L2 (f_1 : TField) (k_35 : Unit → Option (Int)) : Nat → Int → Int → Option (Int)
  | 0, _, _ => none
  | n_33 + 1, bib_31, v_32 =>
    bif decide (v_32 < (((f_1.Runners).length : Int))) then
      (idx f_1.Runners v_32).bind fun x_37 =>
      Option.bind (
        bif decide (x_37.Bib ≤ bib_31) then some true else
        bif decide (x_37.Bib > 9999) then some true else
        (idx f_1.Runners 0).bind fun x_42 =>
        bif (((x_37.Keys).length : Int)) != (((x_42.Keys).length : Int)) then some true else
        some ((((x_37.Worlds).length : Int)) != (w64 ((((f_1.Pairs).length : Int)) + 1)))
      ) fun v_38 =>
      bif v_38 then some 240 else
      (m_slices_Concat_Outcome_Outcome x_37.Worlds).bind fun r_45 =>
      m_field_Check_L3 f_1 r_45 (m_field_Check_J4 v_32 (m_field_Check_L2 f_1 k_35 n_33) x_37) (((((r_45).length : Int)) - 0 : Int).toNat + 1) 0
    else
    k_35 ()

def m_field_Check_J5 (f_1 : TField) (_ : Unit) : Option (Int) :=
  (m_field_possible f_1).bind fun r_57 =>
  bif !r_57 then some 240 else
  some 0

def m_field_Check_J6 (f_1 : TField) (_ : Unit) : Option (Int) :=
  m_field_Check_L2 f_1 (m_field_Check_J5 f_1) (((((f_1.Runners).length : Int)) - 0 : Int).toNat + 1) 0 0

def m_field_Check (f_1 : TField) : Option (Int) :=
  Option.bind (
    (m_clocks_Check f_1.Clocks).bind fun r_5 =>
    bif r_5 != 0 then some true else
    bif decide ((((f_1.Pairs).length : Int)) > 16) then some true else
    bif decide ((((f_1.Runners).length : Int)) < 1) then some true else
    some (decide ((((f_1.Runners).length : Int)) > 4000))
  ) fun v_3 =>
  bif v_3 then some 240 else
  m_field_Check_L1 f_1 (m_field_Check_J6 f_1) (((((f_1.Pairs).length : Int)) - 0 : Int).toNat + 1) 0 0 0

def m_ranks_check_L1 (f_1 : TField) (runners_2 : List Int) (k_11 : Unit → Option (Int)) : Nat → Int → Option (Int)
  | 0, _ => none
  | n_9 + 1, v_8 =>
    bif decide (v_8 < (((runners_2).length : Int))) then
      (idx runners_2 v_8).bind fun x_13 =>
      bif decide (x_13 < 0) then some 250 else
      bif decide (x_13 ≥ (((f_1.Runners).length : Int))) then some 250 else
      (m_ranks_check_L1 f_1 runners_2 k_11 n_9) ((w64 (v_8 + 1)))
    else
    k_11 ()

def m_ranks_check_J2 (_ : Unit) : Option (Int) :=
  some 0

def m_ranks_check (f_1 : TField) (runners_2 : List Int) : Option (Int) :=
  (m_field_Check f_1).bind fun r_4 =>
  bif r_4 != 0 then some 240 else
  m_ranks_check_L1 f_1 runners_2 m_ranks_check_J2 (((((runners_2).length : Int)) - 0 : Int).toNat + 1) 0

def m_ranks_worlds (f_1 : TField) : Option (List TSegment × List (List Int) × List TPair × List TRunner) :=
  some (f_1.Clocks.Segments, f_1.Clocks.Far, f_1.Pairs, f_1.Runners)

def m_ranks_worlds_1_1 (r_1 : TRunner) (c_2 : Int) : Option (Bool) :=
  (idx r_1.Worlds c_2).bind fun x_4 =>
  some ((((x_4).length : Int)) == 0)

def m_slices_IndexFunc_Runner_Runner_with_ranks_worlds_1_1_L1 (s_1 : List TRunner) (c_2 : Int) (k_8 : Unit → Option (Int)) : Nat → Int → Option (Int)
  | 0, _ => none
  | n_6 + 1, v_5 =>
    bif decide (v_5 < (((s_1).length : Int))) then
      (idx s_1 v_5).bind fun x_10 =>
      (m_ranks_worlds_1_1 x_10 c_2).bind fun r_11 =>
      bif r_11 then some v_5 else
      (m_slices_IndexFunc_Runner_Runner_with_ranks_worlds_1_1_L1 s_1 c_2 k_8 n_6) ((w64 (v_5 + 1)))
    else
    k_8 ()

def m_slices_IndexFunc_Runner_Runner_with_ranks_worlds_1_1_J2 (_ : Unit) : Option (Int) :=
  some (-1)

def m_slices_IndexFunc_Runner_Runner_with_ranks_worlds_1_1 (s_1 : List TRunner) (c_2 : Int) : Option (Int) :=
  m_slices_IndexFunc_Runner_Runner_with_ranks_worlds_1_1_L1 s_1 c_2 m_slices_IndexFunc_Runner_Runner_with_ranks_worlds_1_1_J2 (((((s_1).length : Int)) - 0 : Int).toNat + 1) 0

def m_slices_ContainsFunc_Runner_Runner_with_ranks_worlds_1_1 (s_1 : List TRunner) (c_2 : Int) : Option (Bool) :=
  (m_slices_IndexFunc_Runner_Runner_with_ranks_worlds_1_1 s_1 c_2).bind fun r_4 =>
  some (decide (r_4 ≥ 0))

def m_ranks_worlds_1_L1 (c_3 : List TPair) (c_4 : List TRunner) (k_9 : Unit → Option (List Int)) : Nat → Int → Option (List Int)
  | 0, _ => none
  | n_7 + 1, v_6 =>
    bif decide (v_6 < (w64 ((((c_3).length : Int)) + 1))) then
      (m_slices_ContainsFunc_Runner_Runner_with_ranks_worlds_1_1 c_4 v_6).bind fun r_11 =>
      bif !r_11 then
        Option.bind (
          (m_ranks_worlds_1_L1 c_3 c_4 k_9 n_7) ((w64 (v_6 + 1)))
        ) fun l => some (v_6 :: l)
      else
      (m_ranks_worlds_1_L1 c_3 c_4 k_9 n_7) ((w64 (v_6 + 1)))
    else
    k_9 ()

def m_ranks_worlds_1_J2 (_ : Unit) : Option (List Int) :=
  some []

def m_ranks_worlds_1 (c_1 : List TSegment) (c_2 : List (List Int)) (c_3 : List TPair) (c_4 : List TRunner) : Option (List Int) :=
  m_ranks_worlds_1_L1 c_3 c_4 m_ranks_worlds_1_J2 (((w64 ((((c_3).length : Int)) + 1)) - 0 : Int).toNat + 1) 0

def m_ranks_of_1 (x_1 : TOutcome) : Option (Bool) :=
  some x_1.Out

def m_slices_IndexFunc_Outcome_Outcome_with_ranks_of_1_L1 (s_1 : List TOutcome) (k_7 : Unit → Option (Int)) : Nat → Int → Option (Int)
  | 0, _ => none
  | n_5 + 1, v_4 =>
    bif decide (v_4 < (((s_1).length : Int))) then
      (idx s_1 v_4).bind fun x_9 =>
      (m_ranks_of_1 x_9).bind fun r_10 =>
      bif r_10 then some v_4 else
      (m_slices_IndexFunc_Outcome_Outcome_with_ranks_of_1_L1 s_1 k_7 n_5) ((w64 (v_4 + 1)))
    else
    k_7 ()

def m_slices_IndexFunc_Outcome_Outcome_with_ranks_of_1_J2 (_ : Unit) : Option (Int) :=
  some (-1)

def m_slices_IndexFunc_Outcome_Outcome_with_ranks_of_1 (s_1 : List TOutcome) : Option (Int) :=
  m_slices_IndexFunc_Outcome_Outcome_with_ranks_of_1_L1 s_1 m_slices_IndexFunc_Outcome_Outcome_with_ranks_of_1_J2 (((((s_1).length : Int)) - 0 : Int).toNat + 1) 0

def m_slices_ContainsFunc_Outcome_Outcome_with_ranks_of_1 (s_1 : List TOutcome) : Option (Bool) :=
  (m_slices_IndexFunc_Outcome_Outcome_with_ranks_of_1 s_1).bind fun r_3 =>
  some (decide (r_3 ≥ 0))

def m_ranks_best : Option (Unit) :=
  some ()

def m_ranks_best_2 (n_1 : Int) (m_2 : Int) : Option (Bool) :=
  some (decide (n_1 < m_2))

def m_ranks_hi (x_1 : TOutcome) : Option (Int) :=
  some x_1.Hi

def m_ranks_best_1 (far_1 : List (List Int)) (a_2 : Int) (b_3 : Int) : Option (Int) :=
  (idx far_1 a_2).bind fun x_5 =>
  (idx x_5 b_3).bind fun x_6 =>
  some x_6

def m_ranks_lo (x_1 : TOutcome) : Option (Int) :=
  some x_1.Lo

def m_slices_Compare_int_int_L1 (s_1 : List Int) (s_2 : List Int) (k_8 : Unit → Option (Int)) : Nat → Int → Option (Int)
  | 0, _ => none
  | n_6 + 1, v_5 =>
    bif decide (v_5 < (((s_1).length : Int))) then
      (idx s_1 v_5).bind fun x_10 =>
      bif decide (v_5 ≥ (((s_2).length : Int))) then some 1 else
      (idx s_2 v_5).bind fun x_12 =>
      (m_cmp_Compare_int x_10 x_12).bind fun r_13 =>
      bif r_13 != 0 then some r_13 else
      (m_slices_Compare_int_int_L1 s_1 s_2 k_8 n_6) ((w64 (v_5 + 1)))
    else
    k_8 ()

def m_slices_Compare_int_int_J2 (s_1 : List Int) (s_2 : List Int) (_ : Unit) : Option (Int) :=
  bif decide ((((s_1).length : Int)) < (((s_2).length : Int))) then some (-1) else
  some 0

def m_slices_Compare_int_int (s_1 : List Int) (s_2 : List Int) : Option (Int) :=
  m_slices_Compare_int_int_L1 s_1 s_2 (m_slices_Compare_int_int_J2 s_1 s_2) (((((s_1).length : Int)) - 0 : Int).toNat + 1) 0

def m_ranks_direction_ahead_with_ranks_best_2 (f_1 : TField) (runner_2 : Int) (x_3 : TOutcome) (rival_4 : Int) (y_5 : TOutcome) : Option (Bool) :=
  bif y_5.Out then some false else
  (m_ranks_hi y_5).bind fun r_8 =>
  (m_ranks_best_1 f_1.Clocks.Far ((w64 (x_3.Seg + 1))) ((w64 (y_5.Seg + 1)))).bind fun r_10 =>
  (m_ranks_lo x_3).bind fun r_12 =>
  bif decide ((w64 ((w64 (r_8 + r_10)) - r_12)) < 0) then some true else
  bif (w64 ((w64 (r_8 + r_10)) - r_12)) == 0 then
    (idx f_1.Runners rival_4).bind fun x_16 =>
    (idx f_1.Runners runner_2).bind fun x_17 =>
    (m_slices_Compare_int_int x_16.Keys x_17.Keys).bind fun r_18 =>
    some (decide (r_18 < 0))
  else
  some false

def m_ranks_direction_choose_with_ranks_best_2_L1 (f_1 : TField) (runner_3 : Int) (x_4 : TOutcome) (rival_5 : Int) (r_8 : Bool) (x_11 : List TOutcome) (k_16 : Unit → Option (Int × Bool)) : Nat → Int → Option (Int × Bool)
  | 0, _ => none
  | n_14 + 1, v_13 =>
    bif decide (v_13 < (((x_11).length : Int))) then
      (idx x_11 v_13).bind fun x_18 =>
      (m_ranks_direction_ahead_with_ranks_best_2 f_1 runner_3 x_4 rival_5 x_18).bind fun r_19 =>
      bif r_19 == r_8 then some (v_13, r_8) else
      (m_ranks_direction_choose_with_ranks_best_2_L1 f_1 runner_3 x_4 rival_5 r_8 x_11 k_16 n_14) ((w64 (v_13 + 1)))
    else
    k_16 ()

def m_ranks_direction_choose_with_ranks_best_2_J2 (r_8 : Bool) (_ : Unit) : Option (Int × Bool) :=
  some (0, (!r_8))

def m_ranks_direction_choose_with_ranks_best_2 (f_1 : TField) (w_2 : Int) (runner_3 : Int) (x_4 : TOutcome) (rival_5 : Int) : Option (Int × Bool) :=
  (m_ranks_best_2 2 1).bind fun r_8 =>
  (idx f_1.Runners rival_5).bind fun x_10 =>
  (idx x_10.Worlds w_2).bind fun x_11 =>
  m_ranks_direction_choose_with_ranks_best_2_L1 f_1 runner_3 x_4 rival_5 r_8 x_11 (m_ranks_direction_choose_with_ranks_best_2_J2 r_8) (((((x_11).length : Int)) - 0 : Int).toNat + 1) 0

def m_ranks_direction_drive_with_ranks_best_2_L3 (f_1 : TField) (runner_2 : Int) (y_12 : Int) (x_41 : TOutcome) : Nat → Int → Int → Option (Int)
  | 0, _, _ => none
  | n_47 + 1, n_45, v_46 =>
    bif decide (v_46 < (((f_1.Runners).length : Int))) then
      bif v_46 == runner_2 then (m_ranks_direction_drive_with_ranks_best_2_L3 f_1 runner_2 y_12 x_41 n_47) n_45 ((w64 (v_46 + 1))) else
      (m_ranks_direction_choose_with_ranks_best_2 f_1 y_12 runner_2 x_41 v_46).bind fun (r_53, r_54) =>
      bif r_54 then (m_ranks_direction_drive_with_ranks_best_2_L3 f_1 runner_2 y_12 x_41 n_47) ((w64 (n_45 + 1))) ((w64 (v_46 + 1))) else
      (m_ranks_direction_drive_with_ranks_best_2_L3 f_1 runner_2 y_12 x_41 n_47) n_45 ((w64 (v_46 + 1)))
    else
    some n_45

def m_ranks_direction_drive_with_ranks_best_2_L2 (f_1 : TField) (runner_2 : Int) (y_12 : Int) (x_22 : List TOutcome) : Nat → Int → Int → Int → Int → Bool → Option (Int × Int × Int × Bool)
  | 0, _, _, _, _, _ => none
  | n_33 + 1, v_28, v_29, v_30, v_31, v_32 =>
    bif decide (v_28 < (((x_22).length : Int))) then
      (idx x_22 v_28).bind fun x_41 =>
      bif x_41.Out then (m_ranks_direction_drive_with_ranks_best_2_L2 f_1 runner_2 y_12 x_22 n_33) ((w64 (v_28 + 1))) v_29 v_30 v_31 v_32 else
      (m_ranks_direction_drive_with_ranks_best_2_L3 f_1 runner_2 y_12 x_41 (((((f_1.Runners).length : Int)) - 0 : Int).toNat + 1) 1 0).bind fun n_48 =>
      Option.bind (
        bif !v_32 then some true else
        (m_ranks_best_2 n_48 v_31).bind fun r_61 =>
        some r_61
      ) fun v_58 =>
      bif v_58 then (m_ranks_direction_drive_with_ranks_best_2_L2 f_1 runner_2 y_12 x_22 n_33) ((w64 (v_28 + 1))) y_12 v_28 n_48 true else
      (m_ranks_direction_drive_with_ranks_best_2_L2 f_1 runner_2 y_12 x_22 n_33) ((w64 (v_28 + 1))) v_29 v_30 v_31 v_32
    else
    some (v_29, v_30, v_31, v_32)

def m_ranks_direction_drive_with_ranks_best_2_R1 (f_1 : TField) (runner_2 : Int) (y : Int) (s : Int × Int × Int × Bool) : Option (Int × Int × Int × Bool) :=
  match y, s with
  | y_12, (v_17, v_18, v_19, v_20) =>
    (idx f_1.Runners runner_2).bind fun x_21 =>
    (idx x_21.Worlds y_12).bind fun x_22 =>
    (m_ranks_direction_drive_with_ranks_best_2_L2 f_1 runner_2 y_12 x_22 (((((x_22).length : Int)) - 0 : Int).toNat + 1) 0 v_17 v_18 v_19 v_20).bind fun (v_34, v_35, v_36, v_37) =>
    some (v_34, v_35, v_36, v_37)

def m_ranks_direction_drive_with_ranks_best_2 (f_1 : TField) (runner_2 : Int) : Option (Tranks_place × Bool) :=
  (m_ranks_worlds f_1).bind fun (c_5, c_6, c_7, c_8) =>
  (m_ranks_worlds_1 c_5 c_6 c_7 c_8).bind fun l_10 =>
  (foldO (m_ranks_direction_drive_with_ranks_best_2_R1 f_1 runner_2) l_10 (0, 0, 0, false)).bind fun (v_65, v_66, v_67, v_68) =>
  some (({ world := v_65, outcome := v_66, rank := v_67 } : Tranks_place), v_68)

def m_ranks_worst : Option (Unit) :=
  some ()

def m_ranks_worst_2 (n_1 : Int) (m_2 : Int) : Option (Bool) :=
  some (decide (n_1 > m_2))

def m_ranks_worst_1 (far_1 : List (List Int)) (a_2 : Int) (b_3 : Int) : Option (Int) :=
  (idx far_1 b_3).bind fun x_5 =>
  (idx x_5 a_2).bind fun x_6 =>
  some (w64 (0 - x_6))

def m_ranks_direction_ahead_with_ranks_worst_2 (f_1 : TField) (runner_2 : Int) (x_3 : TOutcome) (rival_4 : Int) (y_5 : TOutcome) : Option (Bool) :=
  bif y_5.Out then some false else
  (m_ranks_lo y_5).bind fun r_8 =>
  (m_ranks_worst_1 f_1.Clocks.Far ((w64 (x_3.Seg + 1))) ((w64 (y_5.Seg + 1)))).bind fun r_10 =>
  (m_ranks_hi x_3).bind fun r_12 =>
  bif decide ((w64 ((w64 (r_8 + r_10)) - r_12)) < 0) then some true else
  bif (w64 ((w64 (r_8 + r_10)) - r_12)) == 0 then
    (idx f_1.Runners rival_4).bind fun x_16 =>
    (idx f_1.Runners runner_2).bind fun x_17 =>
    (m_slices_Compare_int_int x_16.Keys x_17.Keys).bind fun r_18 =>
    some (decide (r_18 < 0))
  else
  some false

def m_ranks_direction_choose_with_ranks_worst_2_L1 (f_1 : TField) (runner_3 : Int) (x_4 : TOutcome) (rival_5 : Int) (r_8 : Bool) (x_11 : List TOutcome) (k_16 : Unit → Option (Int × Bool)) : Nat → Int → Option (Int × Bool)
  | 0, _ => none
  | n_14 + 1, v_13 =>
    bif decide (v_13 < (((x_11).length : Int))) then
      (idx x_11 v_13).bind fun x_18 =>
      (m_ranks_direction_ahead_with_ranks_worst_2 f_1 runner_3 x_4 rival_5 x_18).bind fun r_19 =>
      bif r_19 == r_8 then some (v_13, r_8) else
      (m_ranks_direction_choose_with_ranks_worst_2_L1 f_1 runner_3 x_4 rival_5 r_8 x_11 k_16 n_14) ((w64 (v_13 + 1)))
    else
    k_16 ()

def m_ranks_direction_choose_with_ranks_worst_2_J2 (r_8 : Bool) (_ : Unit) : Option (Int × Bool) :=
  some (0, (!r_8))

def m_ranks_direction_choose_with_ranks_worst_2 (f_1 : TField) (w_2 : Int) (runner_3 : Int) (x_4 : TOutcome) (rival_5 : Int) : Option (Int × Bool) :=
  (m_ranks_worst_2 2 1).bind fun r_8 =>
  (idx f_1.Runners rival_5).bind fun x_10 =>
  (idx x_10.Worlds w_2).bind fun x_11 =>
  m_ranks_direction_choose_with_ranks_worst_2_L1 f_1 runner_3 x_4 rival_5 r_8 x_11 (m_ranks_direction_choose_with_ranks_worst_2_J2 r_8) (((((x_11).length : Int)) - 0 : Int).toNat + 1) 0

def m_ranks_direction_drive_with_ranks_worst_2_L3 (f_1 : TField) (runner_2 : Int) (y_12 : Int) (x_41 : TOutcome) : Nat → Int → Int → Option (Int)
  | 0, _, _ => none
  | n_47 + 1, n_45, v_46 =>
    bif decide (v_46 < (((f_1.Runners).length : Int))) then
      bif v_46 == runner_2 then (m_ranks_direction_drive_with_ranks_worst_2_L3 f_1 runner_2 y_12 x_41 n_47) n_45 ((w64 (v_46 + 1))) else
      (m_ranks_direction_choose_with_ranks_worst_2 f_1 y_12 runner_2 x_41 v_46).bind fun (r_53, r_54) =>
      bif r_54 then (m_ranks_direction_drive_with_ranks_worst_2_L3 f_1 runner_2 y_12 x_41 n_47) ((w64 (n_45 + 1))) ((w64 (v_46 + 1))) else
      (m_ranks_direction_drive_with_ranks_worst_2_L3 f_1 runner_2 y_12 x_41 n_47) n_45 ((w64 (v_46 + 1)))
    else
    some n_45

def m_ranks_direction_drive_with_ranks_worst_2_L2 (f_1 : TField) (runner_2 : Int) (y_12 : Int) (x_22 : List TOutcome) : Nat → Int → Int → Int → Int → Bool → Option (Int × Int × Int × Bool)
  | 0, _, _, _, _, _ => none
  | n_33 + 1, v_28, v_29, v_30, v_31, v_32 =>
    bif decide (v_28 < (((x_22).length : Int))) then
      (idx x_22 v_28).bind fun x_41 =>
      bif x_41.Out then (m_ranks_direction_drive_with_ranks_worst_2_L2 f_1 runner_2 y_12 x_22 n_33) ((w64 (v_28 + 1))) v_29 v_30 v_31 v_32 else
      (m_ranks_direction_drive_with_ranks_worst_2_L3 f_1 runner_2 y_12 x_41 (((((f_1.Runners).length : Int)) - 0 : Int).toNat + 1) 1 0).bind fun n_48 =>
      Option.bind (
        bif !v_32 then some true else
        (m_ranks_worst_2 n_48 v_31).bind fun r_61 =>
        some r_61
      ) fun v_58 =>
      bif v_58 then (m_ranks_direction_drive_with_ranks_worst_2_L2 f_1 runner_2 y_12 x_22 n_33) ((w64 (v_28 + 1))) y_12 v_28 n_48 true else
      (m_ranks_direction_drive_with_ranks_worst_2_L2 f_1 runner_2 y_12 x_22 n_33) ((w64 (v_28 + 1))) v_29 v_30 v_31 v_32
    else
    some (v_29, v_30, v_31, v_32)

def m_ranks_direction_drive_with_ranks_worst_2_R1 (f_1 : TField) (runner_2 : Int) (y : Int) (s : Int × Int × Int × Bool) : Option (Int × Int × Int × Bool) :=
  match y, s with
  | y_12, (v_17, v_18, v_19, v_20) =>
    (idx f_1.Runners runner_2).bind fun x_21 =>
    (idx x_21.Worlds y_12).bind fun x_22 =>
    (m_ranks_direction_drive_with_ranks_worst_2_L2 f_1 runner_2 y_12 x_22 (((((x_22).length : Int)) - 0 : Int).toNat + 1) 0 v_17 v_18 v_19 v_20).bind fun (v_34, v_35, v_36, v_37) =>
    some (v_34, v_35, v_36, v_37)

def m_ranks_direction_drive_with_ranks_worst_2 (f_1 : TField) (runner_2 : Int) : Option (Tranks_place × Bool) :=
  (m_ranks_worlds f_1).bind fun (c_5, c_6, c_7, c_8) =>
  (m_ranks_worlds_1 c_5 c_6 c_7 c_8).bind fun l_10 =>
  (foldO (m_ranks_direction_drive_with_ranks_worst_2_R1 f_1 runner_2) l_10 (0, 0, 0, false)).bind fun (v_65, v_66, v_67, v_68) =>
  some (({ world := v_65, outcome := v_66, rank := v_67 } : Tranks_place), v_68)

def m_ranks_of_R1 (f_1 : TField) (runner_2 : Int) (y : Int) (s : Bool) : Option (Bool) :=
  match y, s with
  | y_12, v_14 =>
    bif v_14 then some true else
    (idx f_1.Runners runner_2).bind fun x_16 =>
    (idx x_16.Worlds y_12).bind fun x_17 =>
    (m_slices_ContainsFunc_Outcome_Outcome_with_ranks_of_1 x_17).bind fun r_18 =>
    some r_18

def m_ranks_of (f_1 : TField) (runner_2 : Int) : Option (TRank) :=
  (idx f_1.Runners runner_2).bind fun x_4 =>
  (m_ranks_worlds f_1).bind fun (c_5, c_6, c_7, c_8) =>
  (m_ranks_worlds_1 c_5 c_6 c_7 c_8).bind fun l_10 =>
  (foldO (m_ranks_of_R1 f_1 runner_2) l_10 (false)).bind fun v_20 =>
  (m_ranks_best).bind fun _ =>
  (m_ranks_direction_drive_with_ranks_best_2 f_1 runner_2).bind fun (r_22, r_23) =>
  bif !r_23 then some ({ Bib := x_4.Bib, Kind := 3, Lo := 0, Hi := 0, Out := v_20 } : TRank) else
  (m_ranks_worst).bind fun _ =>
  (m_ranks_direction_drive_with_ranks_worst_2 f_1 runner_2).bind fun (r_27, r_28) =>
  bif r_22.rank == r_27.rank then
    bif !v_20 then some ({ Bib := x_4.Bib, Kind := 1, Lo := r_22.rank, Hi := r_27.rank, Out := v_20 } : TRank) else
    some ({ Bib := x_4.Bib, Kind := 2, Lo := r_22.rank, Hi := r_27.rank, Out := v_20 } : TRank)
  else
  some ({ Bib := x_4.Bib, Kind := 2, Lo := r_22.rank, Hi := r_27.rank, Out := v_20 } : TRank)

def m_ranks_Of (f_1 : TField) (runner_2 : Int) : Option (TRank × Int) :=
  (m_ranks_check f_1 ((([runner_2] : List Int)))).bind fun r_5 =>
  bif r_5 != 0 then some (({ Bib := 0, Kind := 0, Lo := 0, Hi := 0, Out := false } : TRank), r_5) else
  (m_ranks_of f_1 runner_2).bind fun r_8 =>
  some (r_8, 0)

def m_ranks_Ahead_L3 (f_1 : TField) (a_2 : Int) (b_3 : Int) (x_37 : TOutcome) (x_39 : List TOutcome) : Nat → Int → Bool → Bool → Option (Bool × Bool)
  | 0, _, _, _ => none
  | n_46 + 1, v_43, v_44, v_45 =>
    bif decide (v_43 < (((x_39).length : Int))) then
      Option.bind (
        (idx x_39 v_43).bind fun x_55 =>
        bif x_37.Out then some (false, v_45) else
        bif x_55.Out then some (v_44, true) else
        Option.bind (
          bif v_44 then
            (m_ranks_best).bind fun _ =>
            (m_ranks_direction_ahead_with_ranks_best_2 f_1 b_3 x_55 a_2 x_37).bind fun r_62 =>
            some r_62
          else
          some false
        ) fun v_58 =>
        bif v_45 then some (v_58, true) else
        (m_ranks_worst).bind fun _ =>
        (m_ranks_direction_ahead_with_ranks_worst_2 f_1 b_3 x_55 a_2 x_37).bind fun r_66 =>
        some (v_58, r_66)
      ) fun (v_52, v_53) =>
      (m_ranks_Ahead_L3 f_1 a_2 b_3 x_37 x_39 n_46) ((w64 (v_43 + 1))) v_52 v_53
    else
    some (v_44, v_45)

def m_ranks_Ahead_L2 (f_1 : TField) (a_2 : Int) (b_3 : Int) (y_18 : Int) (x_24 : List TOutcome) : Nat → Int → Bool → Bool → Option (Bool × Bool)
  | 0, _, _, _ => none
  | n_31 + 1, v_28, v_29, v_30 =>
    bif decide (v_28 < (((x_24).length : Int))) then
      (idx x_24 v_28).bind fun x_37 =>
      (idx f_1.Runners b_3).bind fun x_38 =>
      (idx x_38.Worlds y_18).bind fun x_39 =>
      (m_ranks_Ahead_L3 f_1 a_2 b_3 x_37 x_39 (((((x_39).length : Int)) - 0 : Int).toNat + 1) 0 v_29 v_30).bind fun (v_47, v_48) =>
      (m_ranks_Ahead_L2 f_1 a_2 b_3 y_18 x_24 n_31) ((w64 (v_28 + 1))) v_47 v_48
    else
    some (v_29, v_30)

def m_ranks_Ahead_R1 (f_1 : TField) (a_2 : Int) (b_3 : Int) (y : Int) (s : Bool × Bool) : Option (Bool × Bool) :=
  match y, s with
  | y_18, (v_21, v_22) =>
    (idx f_1.Runners a_2).bind fun x_23 =>
    (idx x_23.Worlds y_18).bind fun x_24 =>
    (m_ranks_Ahead_L2 f_1 a_2 b_3 y_18 x_24 (((((x_24).length : Int)) - 0 : Int).toNat + 1) 0 v_21 v_22).bind fun (v_32, v_33) =>
    some (v_32, v_33)

def m_ranks_Ahead (f_1 : TField) (a_2 : Int) (b_3 : Int) : Option (Bool × Bool × Int) :=
  (m_ranks_check f_1 ((([a_2, b_3] : List Int)))).bind fun r_7 =>
  bif r_7 != 0 then some (false, false, r_7) else
  bif a_2 == b_3 then some (false, false, 0) else
  (m_ranks_worlds f_1).bind fun (c_11, c_12, c_13, c_14) =>
  (m_ranks_worlds_1 c_11 c_12 c_13 c_14).bind fun l_16 =>
  (foldO (m_ranks_Ahead_R1 f_1 a_2 b_3) l_16 (true, false)).bind fun (v_70, v_71) =>
  some (v_70, v_71, 0)

def m_stopwatchlaw25_sane : Option (Bool) :=
  (m_stopwatchlaw25_simple ((([10, 12, 11, 13] : List Int)))).bind fun r_2 =>
  (m_ranks_Of r_2 0).bind fun (r_4, r_5) =>
  (m_ranks_Of r_2 1).bind fun (r_7, r_8) =>
  (m_stopwatchlaw25_simple ((([10, 12, 13, 13] : List Int)))).bind fun r_10 =>
  (m_ranks_Of r_10 0).bind fun (r_12, r_13) =>
  (m_ranks_Of (({ Clocks := ({ Segments := (([] : List TSegment)), Far := (([] : List (List Int))) } : TClocks), Pairs := (([] : List TPair)), Runners := (([] : List TRunner)) } : TField)) 0).bind fun (r_15, r_16) =>
  (m_ranks_Of r_2 (-1)).bind fun (r_18, r_19) =>
  (idx (([0, 0] : List Int)) 0).bind fun x_21 =>
  (idx (([0, 0] : List Int)) 1).bind fun x_22 =>
  (idx (([({ Out := false, Seg := (-1), Lo := x_21, Hi := x_22 } : TOutcome)] : List TOutcome)) 0).bind fun x_23 =>
  (m_ranks_Of (({ Clocks := ({ Segments := (([] : List TSegment)), Far := (([(([0] : List Int))] : List (List Int))) } : TClocks), Pairs := (([] : List TPair)), Runners := (([({ Bib := 1, Keys := (([] : List Int)), Worlds := (([(List.set (([({ Out := false, Seg := (-1), Lo := x_21, Hi := x_22 } : TOutcome)] : List TOutcome)) (Int.toNat 0) ({ Out := true, Seg := (-1), Lo := 0, Hi := 0 } : TOutcome))] : List (List TOutcome))) } : TRunner)] : List TRunner)) } : TField)) 0).bind fun (r_24, r_25) =>
  (m_ranks_Ahead r_2 0 0).bind fun (r_27, r_28, r_29) =>
  (m_ranks_Ahead r_2 1 0).bind fun (r_31, r_32, r_33) =>
  some (((r_5 == 0) && (((r_4.Bib == 1) && ((r_4.Kind == 2) && ((r_4.Lo == 1) && ((r_4.Hi == 2) && ((r_4.Out == false) && true))))) && ((r_8 == 0) && ((r_7.Lo == 1) && ((r_7.Hi == 2) && ((r_13 == 0) && ((r_12.Kind == 1) && ((r_12.Lo == 1) && ((r_16 == 240) && (r_19 == 250)))))))))) && ((r_25 == 0) && (((r_24.Bib == 1) && ((r_24.Kind == 3) && ((r_24.Lo == 0) && ((r_24.Hi == 0) && ((r_24.Out == true) && true))))) && ((r_29 == 0) && ((!r_27) && ((!r_28) && ((r_33 == 0) && ((!r_31) && r_32))))))))

def m_stopwatchref25_Few_L2 (x_9 : TRunner) (k_16 : Unit → Option (Bool)) : Nat → Int → Option (Bool)
  | 0, _ => none
  | n_14 + 1, w_13 =>
    bif decide (w_13 < (((x_9.Worlds).length : Int))) then
      (idx x_9.Worlds w_13).bind fun x_18 =>
      bif decide ((((x_18).length : Int)) > 4) then some false else
      (m_stopwatchref25_Few_L2 x_9 k_16 n_14) ((w64 (w_13 + 1)))
    else
    k_16 ()

def m_stopwatchref25_Few_J3 (i_4 : Int) (nx_6 : Int → Option (Bool)) (_ : Unit) : Option (Bool) :=
  nx_6 ((w64 (i_4 + 1)))

def m_stopwatchref25_Few_L1 (f_1 : TField) (k_7 : Unit → Option (Bool)) : Nat → Int → Option (Bool)
  | 0, _ => none
  | n_5 + 1, i_4 =>
    bif decide (i_4 < (((f_1.Runners).length : Int))) then
      (idx f_1.Runners i_4).bind fun x_9 =>
      bif decide ((((x_9.Keys).length : Int)) > 5) then some false else
      bif decide ((((x_9.Worlds).length : Int)) > 4) then some false else
      m_stopwatchref25_Few_L2 x_9 (m_stopwatchref25_Few_J3 i_4 (m_stopwatchref25_Few_L1 f_1 k_7 n_5)) (((((x_9.Worlds).length : Int)) - 0 : Int).toNat + 1) 0
    else
    k_7 ()

def m_stopwatchref25_Few_L4 (f_1 : TField) (k_24 : Unit → Option (Bool)) : Nat → Int → Option (Bool)
  | 0, _ => none
  | n_22 + 1, i_21 =>
    bif decide (i_21 < (((f_1.Clocks.Far).length : Int))) then
      (idx f_1.Clocks.Far i_21).bind fun x_26 =>
      bif decide ((((x_26).length : Int)) > 8) then some false else
      (m_stopwatchref25_Few_L4 f_1 k_24 n_22) ((w64 (i_21 + 1)))
    else
    k_24 ()

def m_stopwatchref25_Few_J5 (f_1 : TField) (_ : Unit) : Option (Bool) :=
  some ((decide ((((f_1.Runners).length : Int)) ≤ 6)) && ((decide ((((f_1.Pairs).length : Int)) ≤ 3)) && ((decide ((((f_1.Clocks.Segments).length : Int)) ≤ 4)) && (decide ((((f_1.Clocks.Far).length : Int)) ≤ 6)))))

def m_stopwatchref25_Few_J6 (f_1 : TField) (_ : Unit) : Option (Bool) :=
  m_stopwatchref25_Few_L4 f_1 (m_stopwatchref25_Few_J5 f_1) (((((f_1.Clocks.Far).length : Int)) - 0 : Int).toNat + 1) 0

def m_stopwatchref25_Few (f_1 : TField) : Option (Bool) :=
  m_stopwatchref25_Few_L1 f_1 (m_stopwatchref25_Few_J6 f_1) (((((f_1.Runners).length : Int)) - 0 : Int).toNat + 1) 0

def m_stopwatchref16_time (n_1 : Int) : Option (Bool) :=
  bif decide (n_1 ≥ (-1099511627776)) then some (decide (n_1 ≤ 1099511627776)) else
  some false

def m_stopwatchref16_less (a_1 : TSegment) (b_2 : TSegment) : Option (Bool) :=
  bif decide (a_1.Mat < b_2.Mat) then some true else
  bif a_1.Mat == b_2.Mat then some (decide (a_1.Epoch < b_2.Epoch)) else
  some false

def m_stopwatchref16_Check_L1 (k_1 : TClocks) (k_9 : Unit → Option (Int)) : Nat → Int → Option (Int)
  | 0, _ => none
  | n_7 + 1, i_6 =>
    bif decide (i_6 < (((k_1.Segments).length : Int))) then
      (idx k_1.Segments i_6).bind fun x_11 =>
      Option.bind (
        bif decide (x_11.Mat < 0) then some true else
        bif decide (x_11.Mat ≥ 40) then some true else
        bif decide (x_11.Epoch < 0) then some true else
        bif decide (x_11.Epoch > 255) then some true else
        (m_stopwatchref16_time x_11.Anchor).bind fun r_18 =>
        bif !r_18 then some true else
        bif decide (i_6 > 0) then
          (idx k_1.Segments (w64 (i_6 - 1))).bind fun x_22 =>
          (m_stopwatchref16_less x_22 x_11).bind fun r_23 =>
          some (!r_23)
        else
        some false
      ) fun v_12 =>
      bif v_12 then some 160 else
      (m_stopwatchref16_Check_L1 k_1 k_9 n_7) ((w64 (i_6 + 1)))
    else
    k_9 ()

def m_stopwatchref16_Check_L3 (k_1 : TClocks) (i_27 : Int) (k_41 : Unit → Option (Int)) : Nat → Int → Option (Int)
  | 0, _ => none
  | n_39 + 1, j_38 =>
    bif decide (j_38 ≤ (((k_1.Segments).length : Int))) then
      (idx k_1.Far i_27).bind fun x_43 =>
      (idx x_43 j_38).bind fun x_44 =>
      bif decide (x_44 < (-2199023255552)) then some 160 else
      (idx k_1.Far i_27).bind fun x_46 =>
      (idx x_46 j_38).bind fun x_47 =>
      bif decide (x_47 > 2199023255552) then some 160 else
      (m_stopwatchref16_Check_L3 k_1 i_27 k_41 n_39) ((w64 (j_38 + 1)))
    else
    k_41 ()

def m_stopwatchref16_Check_J4 (i_27 : Int) (nx_29 : Int → Option (Int)) (_ : Unit) : Option (Int) :=
  nx_29 ((w64 (i_27 + 1)))

def m_stopwatchref16_Check_L2 (k_1 : TClocks) (k_30 : Unit → Option (Int)) : Nat → Int → Option (Int)
  | 0, _ => none
  | n_28 + 1, i_27 =>
    bif decide (i_27 ≤ (((k_1.Segments).length : Int))) then
      (idx k_1.Far i_27).bind fun x_32 =>
      bif (((x_32).length : Int)) != (w64 ((((k_1.Segments).length : Int)) + 1)) then some 160 else
      (idx k_1.Far i_27).bind fun x_34 =>
      (idx x_34 i_27).bind fun x_35 =>
      bif x_35 != 0 then some 160 else
      m_stopwatchref16_Check_L3 k_1 i_27 (m_stopwatchref16_Check_J4 i_27 (m_stopwatchref16_Check_L2 k_1 k_30 n_28)) (((((k_1.Segments).length : Int)) + 1 - 0 : Int).toNat + 1) 0
    else
    k_30 ()

def m_stopwatchref16_Check_L7 (k_1 : TClocks) (i_50 : Int) (j_56 : Int) (k_65 : Unit → Option (Int)) : Nat → Int → Option (Int)
  | 0, _ => none
  | n_63 + 1, m_62 =>
    bif decide (m_62 ≤ (((k_1.Segments).length : Int))) then
      (idx k_1.Far i_50).bind fun x_67 =>
      (idx x_67 m_62).bind fun x_68 =>
      (idx k_1.Far i_50).bind fun x_69 =>
      (idx x_69 j_56).bind fun x_70 =>
      (idx k_1.Far j_56).bind fun x_71 =>
      (idx x_71 m_62).bind fun x_72 =>
      bif decide (x_68 > (w64 (x_70 + x_72))) then some 160 else
      (m_stopwatchref16_Check_L7 k_1 i_50 j_56 k_65 n_63) ((w64 (m_62 + 1)))
    else
    k_65 ()

def m_stopwatchref16_Check_J8 (j_56 : Int) (nx_58 : Int → Option (Int)) (_ : Unit) : Option (Int) :=
  nx_58 ((w64 (j_56 + 1)))

def m_stopwatchref16_Check_L6 (k_1 : TClocks) (i_50 : Int) (k_59 : Unit → Option (Int)) : Nat → Int → Option (Int)
  | 0, _ => none
  | n_57 + 1, j_56 =>
    bif decide (j_56 ≤ (((k_1.Segments).length : Int))) then m_stopwatchref16_Check_L7 k_1 i_50 j_56 (m_stopwatchref16_Check_J8 j_56 (m_stopwatchref16_Check_L6 k_1 i_50 k_59 n_57)) (((((k_1.Segments).length : Int)) + 1 - 0 : Int).toNat + 1) 0 else
    k_59 ()

def m_stopwatchref16_Check_J9 (i_50 : Int) (nx_52 : Int → Option (Int)) (_ : Unit) : Option (Int) :=
  nx_52 ((w64 (i_50 + 1)))

def m_stopwatchref16_Check_L5 (k_1 : TClocks) (k_53 : Unit → Option (Int)) : Nat → Int → Option (Int)
  | 0, _ => none
  | n_51 + 1, i_50 =>
    bif decide (i_50 ≤ (((k_1.Segments).length : Int))) then m_stopwatchref16_Check_L6 k_1 i_50 (m_stopwatchref16_Check_J9 i_50 (m_stopwatchref16_Check_L5 k_1 k_53 n_51)) (((((k_1.Segments).length : Int)) + 1 - 0 : Int).toNat + 1) 0 else
    k_53 ()

def m_stopwatchref16_Check_J10 (_ : Unit) : Option (Int) :=
  some 0

def m_stopwatchref16_Check_J11 (k_1 : TClocks) (_ : Unit) : Option (Int) :=
  m_stopwatchref16_Check_L5 k_1 m_stopwatchref16_Check_J10 (((((k_1.Segments).length : Int)) + 1 - 0 : Int).toNat + 1) 0

def m_stopwatchref16_Check_J12 (k_1 : TClocks) (_ : Unit) : Option (Int) :=
  m_stopwatchref16_Check_L2 k_1 (m_stopwatchref16_Check_J11 k_1) (((((k_1.Segments).length : Int)) + 1 - 0 : Int).toNat + 1) 0

def m_stopwatchref16_Check (k_1 : TClocks) : Option (Int) :=
  bif decide ((((k_1.Segments).length : Int)) > 511) then some 160 else
  bif (((k_1.Far).length : Int)) != (w64 ((((k_1.Segments).length : Int)) + 1)) then some 160 else
  m_stopwatchref16_Check_L1 k_1 (m_stopwatchref16_Check_J12 k_1) (((((k_1.Segments).length : Int)) - 0 : Int).toNat + 1) 0

def m_stopwatchref12_in (n_1 : Int) (least_2 : Int) (most_3 : Int) : Option (Bool) :=
  bif decide (n_1 ≥ least_2) then some (decide (n_1 ≤ most_3)) else
  some false

def m_stopwatchref12_Bib (n_1 : Int) : Option (Bool) :=
  (m_stopwatchref12_in n_1 1 9999).bind fun r_3 =>
  some r_3

def m_stopwatchref23_Check (k_1 : TClocks) (x_2 : TOutcome) : Option (Int) :=
  (m_stopwatchref16_Check k_1).bind fun r_4 =>
  bif r_4 != 0 then some r_4 else
  bif bif x_2.Out then ((x_2.Seg != (-1)) || ((x_2.Lo != 0) || (x_2.Hi != 0))) else ((decide (x_2.Seg < (-1))) || ((decide (x_2.Seg ≥ (((k_1.Segments).length : Int)))) || ((decide (x_2.Lo < (-288230376151711744))) || ((decide (x_2.Lo > x_2.Hi)) || (decide (x_2.Hi > 288230376151711744)))))) then some 230 else
  some 0

def m_stopwatchref24_Possible_L1 (f_1 : TField) (world_2 : Int) (k_8 : Unit → Option (Bool)) : Nat → Int → Option (Bool)
  | 0, _ => none
  | n_6 + 1, i_5 =>
    bif decide (i_5 < (((f_1.Runners).length : Int))) then
      bif decide (world_2 < 0) then some false else
      (idx f_1.Runners i_5).bind fun x_11 =>
      bif decide (world_2 ≥ (((x_11.Worlds).length : Int))) then some false else
      (idx f_1.Runners i_5).bind fun x_13 =>
      (idx x_13.Worlds world_2).bind fun x_14 =>
      bif (((x_14).length : Int)) == 0 then some false else
      (m_stopwatchref24_Possible_L1 f_1 world_2 k_8 n_6) ((w64 (i_5 + 1)))
    else
    k_8 ()

def m_stopwatchref24_Possible_J2 (_ : Unit) : Option (Bool) :=
  some true

def m_stopwatchref24_Possible (f_1 : TField) (world_2 : Int) : Option (Bool) :=
  m_stopwatchref24_Possible_L1 f_1 world_2 m_stopwatchref24_Possible_J2 (((((f_1.Runners).length : Int)) - 0 : Int).toNat + 1) 0

def m_stopwatchref24_possible_L1 (f_1 : TField) (k_7 : Unit → Option (Bool)) : Nat → Int → Option (Bool)
  | 0, _ => none
  | n_5 + 1, w_4 =>
    bif decide (w_4 ≤ (((f_1.Pairs).length : Int))) then
      (m_stopwatchref24_Possible f_1 w_4).bind fun r_9 =>
      bif r_9 then some true else
      (m_stopwatchref24_possible_L1 f_1 k_7 n_5) ((w64 (w_4 + 1)))
    else
    k_7 ()

def m_stopwatchref24_possible_J2 (_ : Unit) : Option (Bool) :=
  some false

def m_stopwatchref24_possible (f_1 : TField) : Option (Bool) :=
  m_stopwatchref24_possible_L1 f_1 m_stopwatchref24_possible_J2 (((((f_1.Pairs).length : Int)) + 1 - 0 : Int).toNat + 1) 0

def m_stopwatchref24_Check_L1 (f_1 : TField) (k_15 : Unit → Option (Int)) : Nat → Int → Option (Int)
  | 0, _ => none
  | n_13 + 1, i_12 =>
    bif decide (i_12 < (((f_1.Pairs).length : Int))) then
      (idx f_1.Pairs i_12).bind fun x_17 =>
      bif decide (x_17.A < 1) then some 240 else
      bif decide (x_17.A ≥ x_17.B) then some 240 else
      bif decide (x_17.B > 9999) then some 240 else
      Option.bind (
        bif decide (i_12 > 0) then
          (idx f_1.Pairs (w64 (i_12 - 1))).bind fun x_24 =>
          bif decide (x_24.A > x_17.A) then some true else
          (idx f_1.Pairs (w64 (i_12 - 1))).bind fun x_26 =>
          bif x_26.A == x_17.A then
            (idx f_1.Pairs (w64 (i_12 - 1))).bind fun x_28 =>
            some (decide (x_28.B ≥ x_17.B))
          else
          some false
        else
        some false
      ) fun v_21 =>
      bif v_21 then some 240 else
      (m_stopwatchref24_Check_L1 f_1 k_15 n_13) ((w64 (i_12 + 1)))
    else
    k_15 ()

def m_stopwatchref24_Check_L4 (f_1 : TField) (x_36 : TRunner) (w_51 : Int) (k_60 : Unit → Option (Int)) : Nat → Int → Option (Int)
  | 0, _ => none
  | n_58 + 1, n_57 =>
    (idx x_36.Worlds w_51).bind fun x_61 =>
    bif decide (n_57 < (((x_61).length : Int))) then
      (idx x_36.Worlds w_51).bind fun x_63 =>
      (idx x_63 n_57).bind fun x_64 =>
      (m_stopwatchref23_Check f_1.Clocks x_64).bind fun r_65 =>
      bif r_65 != 0 then some 240 else
      (m_stopwatchref24_Check_L4 f_1 x_36 w_51 k_60 n_58) ((w64 (n_57 + 1)))
    else
    k_60 ()

def m_stopwatchref24_Check_J5 (w_51 : Int) (nx_53 : Int → Option (Int)) (_ : Unit) : Option (Int) :=
  nx_53 ((w64 (w_51 + 1)))

def m_stopwatchref24_Check_L3 (f_1 : TField) (x_36 : TRunner) (k_54 : Unit → Option (Int)) : Nat → Int → Option (Int)
  | 0, _ => none
  | n_52 + 1, w_51 =>
    bif decide (w_51 < (((x_36.Worlds).length : Int))) then m_stopwatchref24_Check_L4 f_1 x_36 w_51 (m_stopwatchref24_Check_J5 w_51 (m_stopwatchref24_Check_L3 f_1 x_36 k_54 n_52)) ((((((Option.getD (idx x_36.Worlds w_51) default)).length : Int)) - 0 : Int).toNat + 1) 0 else
    k_54 ()

def m_stopwatchref24_Check_J6 (i_31 : Int) (nx_33 : Int → Option (Int)) (_ : Unit) : Option (Int) :=
  nx_33 ((w64 (i_31 + 1)))

def m_stopwatchref24_Check_L2 (f_1 : TField) (k_34 : Unit → Option (Int)) : Nat → Int → Option (Int)
  | 0, _ => none
  | n_32 + 1, i_31 =>
    bif decide (i_31 < (((f_1.Runners).length : Int))) then
      (idx f_1.Runners i_31).bind fun x_36 =>
      Option.bind (
        (m_stopwatchref12_Bib x_36.Bib).bind fun r_39 =>
        bif !r_39 then some true else
        bif decide (i_31 > 0) then
          (idx f_1.Runners (w64 (i_31 - 1))).bind fun x_43 =>
          bif decide (x_43.Bib ≥ x_36.Bib) then some true else
          (idx f_1.Runners 0).bind fun x_45 =>
          bif (((x_36.Keys).length : Int)) != (((x_45.Keys).length : Int)) then some true else
          some ((((x_36.Worlds).length : Int)) != (w64 ((((f_1.Pairs).length : Int)) + 1)))
        else
        (idx f_1.Runners 0).bind fun x_47 =>
        bif (((x_36.Keys).length : Int)) != (((x_47.Keys).length : Int)) then some true else
        some ((((x_36.Worlds).length : Int)) != (w64 ((((f_1.Pairs).length : Int)) + 1)))
      ) fun v_37 =>
      bif v_37 then some 240 else
      m_stopwatchref24_Check_L3 f_1 x_36 (m_stopwatchref24_Check_J6 i_31 (m_stopwatchref24_Check_L2 f_1 k_34 n_32)) (((((x_36.Worlds).length : Int)) - 0 : Int).toNat + 1) 0
    else
    k_34 ()

def m_stopwatchref24_Check_J7 (f_1 : TField) (_ : Unit) : Option (Int) :=
  (m_stopwatchref24_possible f_1).bind fun r_68 =>
  bif !r_68 then some 240 else
  some 0

def m_stopwatchref24_Check_J8 (f_1 : TField) (_ : Unit) : Option (Int) :=
  m_stopwatchref24_Check_L2 f_1 (m_stopwatchref24_Check_J7 f_1) (((((f_1.Runners).length : Int)) - 0 : Int).toNat + 1) 0

def m_stopwatchref24_Check (f_1 : TField) : Option (Int) :=
  Option.bind (
    (m_stopwatchref16_Check f_1.Clocks).bind fun r_5 =>
    bif r_5 != 0 then some true else
    bif decide ((((f_1.Pairs).length : Int)) > 16) then some true else
    bif decide ((((f_1.Runners).length : Int)) < 1) then some true else
    some (decide ((((f_1.Runners).length : Int)) > 4000))
  ) fun v_3 =>
  bif v_3 then some 240 else
  m_stopwatchref24_Check_L1 f_1 (m_stopwatchref24_Check_J8 f_1) (((((f_1.Pairs).length : Int)) - 0 : Int).toNat + 1) 0

def m_stopwatchref25_check (f_1 : TField) (runner_2 : Int) : Option (Int) :=
  (m_stopwatchref24_Check f_1).bind fun r_4 =>
  bif r_4 != 0 then some 240 else
  bif decide (runner_2 < 0) then some 250 else
  bif decide (runner_2 ≥ (((f_1.Runners).length : Int))) then some 250 else
  some 0

def m_stopwatchref25_Possible_L1 (f_1 : TField) (world_2 : Int) (k_10 : Unit → Option (Bool)) : Nat → Int → Option (Bool)
  | 0, _ => none
  | n_8 + 1, i_7 =>
    bif decide (i_7 < (((f_1.Runners).length : Int))) then
      (idx f_1.Runners i_7).bind fun x_12 =>
      bif decide (world_2 ≥ (((x_12.Worlds).length : Int))) then some false else
      (idx f_1.Runners i_7).bind fun x_14 =>
      (idx x_14.Worlds world_2).bind fun x_15 =>
      bif (((x_15).length : Int)) == 0 then some false else
      (m_stopwatchref25_Possible_L1 f_1 world_2 k_10 n_8) ((w64 (i_7 + 1)))
    else
    k_10 ()

def m_stopwatchref25_Possible_J2 (_ : Unit) : Option (Bool) :=
  some true

def m_stopwatchref25_Possible (f_1 : TField) (world_2 : Int) : Option (Bool) :=
  bif decide (world_2 < 0) then some false else
  bif decide (world_2 > (((f_1.Pairs).length : Int))) then some false else
  m_stopwatchref25_Possible_L1 f_1 world_2 m_stopwatchref25_Possible_J2 (((((f_1.Runners).length : Int)) - 0 : Int).toNat + 1) 0

def m_stopwatchref25_Less_L1 (a_1 : List Int) (b_2 : List Int) (k_8 : Unit → Option (Bool)) : Nat → Int → Option (Bool)
  | 0, _ => none
  | n_6 + 1, i_5 =>
    bif decide (i_5 < (((a_1).length : Int))) then
      bif decide (i_5 < (((b_2).length : Int))) then
        (idx a_1 i_5).bind fun x_11 =>
        (idx b_2 i_5).bind fun x_12 =>
        bif x_11 != x_12 then
          (idx a_1 i_5).bind fun x_14 =>
          (idx b_2 i_5).bind fun x_15 =>
          some (decide (x_14 < x_15))
        else
        (m_stopwatchref25_Less_L1 a_1 b_2 k_8 n_6) ((w64 (i_5 + 1)))
      else
      k_8 ()
    else
    k_8 ()

def m_stopwatchref25_Less_J2 (a_1 : List Int) (b_2 : List Int) (_ : Unit) : Option (Bool) :=
  some (decide ((((a_1).length : Int)) < (((b_2).length : Int))))

def m_stopwatchref25_Less (a_1 : List Int) (b_2 : List Int) : Option (Bool) :=
  m_stopwatchref25_Less_L1 a_1 b_2 (m_stopwatchref25_Less_J2 a_1 b_2) (((((a_1).length : Int)) - 0 : Int).toNat + 1) 0

def m_stopwatchref25_late (f_1 : TField) (x_2 : TOutcome) (runner_3 : Int) (y_4 : TOutcome) (rival_5 : Int) : Option (Bool) :=
  bif y_4.Out then some true else
  (idx f_1.Clocks.Far (w64 (x_2.Seg + 1))).bind fun x_8 =>
  (idx x_8 (w64 (y_4.Seg + 1))).bind fun x_9 =>
  bif decide ((w64 ((w64 (y_4.Hi + x_9)) - x_2.Lo)) > 0) then some true else
  bif (w64 ((w64 (y_4.Hi + x_9)) - x_2.Lo)) == 0 then
    (idx f_1.Runners rival_5).bind fun x_12 =>
    (idx f_1.Runners runner_3).bind fun x_13 =>
    (m_stopwatchref25_Less x_12.Keys x_13.Keys).bind fun r_14 =>
    some (!r_14)
  else
  some false

def m_stopwatchref25_early (f_1 : TField) (x_2 : TOutcome) (runner_3 : Int) (y_4 : TOutcome) (rival_5 : Int) : Option (Bool) :=
  bif y_4.Out then some false else
  (idx f_1.Clocks.Far (w64 (y_4.Seg + 1))).bind fun x_8 =>
  (idx x_8 (w64 (x_2.Seg + 1))).bind fun x_9 =>
  bif decide ((w64 ((w64 (y_4.Lo - x_9)) - x_2.Hi)) < 0) then some true else
  bif (w64 ((w64 (y_4.Lo - x_9)) - x_2.Hi)) == 0 then
    (idx f_1.Runners rival_5).bind fun x_12 =>
    (idx f_1.Runners runner_3).bind fun x_13 =>
    (m_stopwatchref25_Less x_12.Keys x_13.Keys).bind fun r_14 =>
    some r_14
  else
  some false

def m_stopwatchref25_Ahead_L3 (f_1 : TField) (a_2 : Int) (b_3 : Int) (x_30 : List TOutcome) (x_32 : List TOutcome) (i_38 : Int) : Nat → Bool → Bool → Int → Option (Bool × Bool)
  | 0, _, _, _ => none
  | n_51 + 1, certain_48, possible_49, k_50 =>
    bif decide (k_50 < (((x_32).length : Int))) then
      Option.bind (
        (idx x_30 i_38).bind fun x_60 =>
        bif x_60.Out then some (false, possible_49) else
        (idx x_32 k_50).bind fun x_62 =>
        bif x_62.Out then some (certain_48, true) else
        Option.bind (
          bif certain_48 then
            (idx x_32 k_50).bind fun x_67 =>
            (idx x_30 i_38).bind fun x_68 =>
            (m_stopwatchref25_late f_1 x_67 b_3 x_68 a_2).bind fun r_69 =>
            some (!r_69)
          else
          some false
        ) fun certain_64 =>
        bif possible_49 then some (certain_64, true) else
        (idx x_32 k_50).bind fun x_72 =>
        (idx x_30 i_38).bind fun x_73 =>
        (m_stopwatchref25_early f_1 x_72 b_3 x_73 a_2).bind fun r_74 =>
        some (certain_64, r_74)
      ) fun (certain_57, possible_58) =>
      (m_stopwatchref25_Ahead_L3 f_1 a_2 b_3 x_30 x_32 i_38 n_51) certain_57 possible_58 ((w64 (k_50 + 1)))
    else
    some (certain_48, possible_49)

def m_stopwatchref25_Ahead_L2 (f_1 : TField) (a_2 : Int) (b_3 : Int) (x_30 : List TOutcome) (x_32 : List TOutcome) : Nat → Bool → Bool → Int → Option (Bool × Bool)
  | 0, _, _, _ => none
  | n_39 + 1, certain_36, possible_37, i_38 =>
    bif decide (i_38 < (((x_30).length : Int))) then
      (m_stopwatchref25_Ahead_L3 f_1 a_2 b_3 x_30 x_32 i_38 (((((x_32).length : Int)) - 0 : Int).toNat + 1) certain_36 possible_37 0).bind fun (certain_52, possible_53) =>
      (m_stopwatchref25_Ahead_L2 f_1 a_2 b_3 x_30 x_32 n_39) certain_52 possible_53 ((w64 (i_38 + 1)))
    else
    some (certain_36, possible_37)

def m_stopwatchref25_Ahead_L1 (f_1 : TField) (a_2 : Int) (b_3 : Int) : Nat → Bool → Bool → Int → Option (Bool × Bool)
  | 0, _, _, _ => none
  | n_20 + 1, certain_17, possible_18, w_19 =>
    bif decide (w_19 ≤ (((f_1.Pairs).length : Int))) then
      (m_stopwatchref25_Possible f_1 w_19).bind fun r_26 =>
      bif !r_26 then (m_stopwatchref25_Ahead_L1 f_1 a_2 b_3 n_20) certain_17 possible_18 ((w64 (w_19 + 1))) else
      (idx f_1.Runners a_2).bind fun x_29 =>
      (idx x_29.Worlds w_19).bind fun x_30 =>
      (idx f_1.Runners b_3).bind fun x_31 =>
      (idx x_31.Worlds w_19).bind fun x_32 =>
      (m_stopwatchref25_Ahead_L2 f_1 a_2 b_3 x_30 x_32 (((((x_30).length : Int)) - 0 : Int).toNat + 1) certain_17 possible_18 0).bind fun (certain_40, possible_41) =>
      (m_stopwatchref25_Ahead_L1 f_1 a_2 b_3 n_20) certain_40 possible_41 ((w64 (w_19 + 1)))
    else
    some (certain_17, possible_18)

def m_stopwatchref25_Ahead_L6 (f_1 : TField) (a_2 : Int) (b_3 : Int) (x_97 : List TOutcome) (x_99 : List TOutcome) (i_105 : Int) : Nat → Bool → Bool → Int → Option (Bool × Bool)
  | 0, _, _, _ => none
  | n_118 + 1, certain_115, possible_116, k_117 =>
    bif decide (k_117 < (((x_99).length : Int))) then
      Option.bind (
        (idx x_97 i_105).bind fun x_127 =>
        bif x_127.Out then some (false, possible_116) else
        (idx x_99 k_117).bind fun x_129 =>
        bif x_129.Out then some (certain_115, true) else
        Option.bind (
          bif certain_115 then
            (idx x_99 k_117).bind fun x_134 =>
            (idx x_97 i_105).bind fun x_135 =>
            (m_stopwatchref25_late f_1 x_134 b_3 x_135 a_2).bind fun r_136 =>
            some (!r_136)
          else
          some false
        ) fun certain_131 =>
        bif possible_116 then some (certain_131, true) else
        (idx x_99 k_117).bind fun x_139 =>
        (idx x_97 i_105).bind fun x_140 =>
        (m_stopwatchref25_early f_1 x_139 b_3 x_140 a_2).bind fun r_141 =>
        some (certain_131, r_141)
      ) fun (certain_124, possible_125) =>
      (m_stopwatchref25_Ahead_L6 f_1 a_2 b_3 x_97 x_99 i_105 n_118) certain_124 possible_125 ((w64 (k_117 + 1)))
    else
    some (certain_115, possible_116)

def m_stopwatchref25_Ahead_L5 (f_1 : TField) (a_2 : Int) (b_3 : Int) (x_97 : List TOutcome) (x_99 : List TOutcome) : Nat → Bool → Bool → Int → Option (Bool × Bool)
  | 0, _, _, _ => none
  | n_106 + 1, certain_103, possible_104, i_105 =>
    bif decide (i_105 < (((x_97).length : Int))) then
      (m_stopwatchref25_Ahead_L6 f_1 a_2 b_3 x_97 x_99 i_105 (((((x_99).length : Int)) - 0 : Int).toNat + 1) certain_103 possible_104 0).bind fun (certain_119, possible_120) =>
      (m_stopwatchref25_Ahead_L5 f_1 a_2 b_3 x_97 x_99 n_106) certain_119 possible_120 ((w64 (i_105 + 1)))
    else
    some (certain_103, possible_104)

def m_stopwatchref25_Ahead_L4 (f_1 : TField) (a_2 : Int) (b_3 : Int) : Nat → Bool → Bool → Int → Option (Bool × Bool)
  | 0, _, _, _ => none
  | n_87 + 1, certain_84, possible_85, w_86 =>
    bif decide (w_86 ≤ (((f_1.Pairs).length : Int))) then
      (m_stopwatchref25_Possible f_1 w_86).bind fun r_93 =>
      bif !r_93 then (m_stopwatchref25_Ahead_L4 f_1 a_2 b_3 n_87) certain_84 possible_85 ((w64 (w_86 + 1))) else
      (idx f_1.Runners a_2).bind fun x_96 =>
      (idx x_96.Worlds w_86).bind fun x_97 =>
      (idx f_1.Runners b_3).bind fun x_98 =>
      (idx x_98.Worlds w_86).bind fun x_99 =>
      (m_stopwatchref25_Ahead_L5 f_1 a_2 b_3 x_97 x_99 (((((x_97).length : Int)) - 0 : Int).toNat + 1) certain_84 possible_85 0).bind fun (certain_107, possible_108) =>
      (m_stopwatchref25_Ahead_L4 f_1 a_2 b_3 n_87) certain_107 possible_108 ((w64 (w_86 + 1)))
    else
    some (certain_84, possible_85)

def m_stopwatchref25_Ahead (f_1 : TField) (a_2 : Int) (b_3 : Int) : Option (Bool × Bool × Int) :=
  (m_stopwatchref25_check f_1 a_2).bind fun r_7 =>
  bif r_7 == 0 then
    (m_stopwatchref25_check f_1 b_3).bind fun r_10 =>
    bif r_10 != 0 then some (false, false, r_10) else
    bif a_2 == b_3 then some (false, false, 0) else
    (m_stopwatchref25_Ahead_L1 f_1 a_2 b_3 (((((f_1.Pairs).length : Int)) + 1 - 0 : Int).toNat + 1) true false 0).bind fun (certain_21, possible_22) =>
    some (certain_21, possible_22, 0)
  else
  bif r_7 != 0 then some (false, false, r_7) else
  bif a_2 == b_3 then some (false, false, 0) else
  (m_stopwatchref25_Ahead_L4 f_1 a_2 b_3 (((((f_1.Pairs).length : Int)) + 1 - 0 : Int).toNat + 1) true false 0).bind fun (certain_88, possible_89) =>
  some (certain_88, possible_89, 0)

def m_stopwatchlaw25_RanksAheadSpec_L2 (f_1 : TField) (b_3 : Int) (x_17 : Int) (k_22 : Unit → Option (Bool)) : Nat → Int → Option (Bool)
  | 0, _ => none
  | n_20 + 1, v_19 =>
    bif decide (v_19 < 2) then
      (idx (([b_3, (bitK .i64 (BitVec.ofInt 64 b_3 &&& BitVec.ofInt 64 3))] : List Int)) v_19).bind fun x_24 =>
      (m_ranks_Ahead f_1 x_17 x_24).bind fun (r_25, r_26, r_27) =>
      (m_stopwatchref25_Ahead f_1 x_17 x_24).bind fun (r_29, r_30, r_31) =>
      bif !(r_25 == r_29) then some false else
      bif !(r_26 == r_30) then some false else
      bif r_27 != r_31 then some false else
      (m_stopwatchlaw25_RanksAheadSpec_L2 f_1 b_3 x_17 k_22 n_20) ((w64 (v_19 + 1)))
    else
    k_22 ()

def m_stopwatchlaw25_RanksAheadSpec_J3 (v_12 : Int) (nx_14 : Int → Option (Bool)) (_ : Unit) : Option (Bool) :=
  nx_14 ((w64 (v_12 + 1)))

def m_stopwatchlaw25_RanksAheadSpec_L1 (f_1 : TField) (a_2 : Int) (b_3 : Int) (k_15 : Unit → Option (Bool)) : Nat → Int → Option (Bool)
  | 0, _ => none
  | n_13 + 1, v_12 =>
    bif decide (v_12 < 2) then
      (idx (([a_2, (bitK .i64 (BitVec.ofInt 64 a_2 &&& BitVec.ofInt 64 3))] : List Int)) v_12).bind fun x_17 =>
      m_stopwatchlaw25_RanksAheadSpec_L2 f_1 b_3 x_17 (m_stopwatchlaw25_RanksAheadSpec_J3 v_12 (m_stopwatchlaw25_RanksAheadSpec_L1 f_1 a_2 b_3 k_15 n_13)) ((2 - 0 : Int).toNat + 1) 0
    else
    k_15 ()

def m_stopwatchlaw25_RanksAheadSpec_J4 (_ : Unit) : Option (Bool) :=
  some true

def m_stopwatchlaw25_RanksAheadSpec (f_1 : TField) (a_2 : Int) (b_3 : Int) : Option (Bool) :=
  (m_stopwatchlaw25_sane).bind fun r_5 =>
  bif !r_5 then some false else
  (m_stopwatchref25_Few f_1).bind fun r_8 =>
  bif !r_8 then some true else
  m_stopwatchlaw25_RanksAheadSpec_L1 f_1 a_2 b_3 m_stopwatchlaw25_RanksAheadSpec_J4 ((2 - 0 : Int).toNat + 1) 0

def m_stopwatchref25_anyLate_L1 (f_1 : TField) (x_3 : TOutcome) (runner_4 : Int) (rival_5 : Int) (x_8 : List TOutcome) (k_13 : Unit → Option (Bool)) : Nat → Int → Option (Bool)
  | 0, _ => none
  | n_11 + 1, i_10 =>
    bif decide (i_10 < (((x_8).length : Int))) then
      (idx x_8 i_10).bind fun x_15 =>
      (m_stopwatchref25_late f_1 x_3 runner_4 x_15 rival_5).bind fun r_16 =>
      bif r_16 then some true else
      (m_stopwatchref25_anyLate_L1 f_1 x_3 runner_4 rival_5 x_8 k_13 n_11) ((w64 (i_10 + 1)))
    else
    k_13 ()

def m_stopwatchref25_anyLate_J2 (_ : Unit) : Option (Bool) :=
  some false

def m_stopwatchref25_anyLate (f_1 : TField) (world_2 : Int) (x_3 : TOutcome) (runner_4 : Int) (rival_5 : Int) : Option (Bool) :=
  (idx f_1.Runners rival_5).bind fun x_7 =>
  (idx x_7.Worlds world_2).bind fun x_8 =>
  m_stopwatchref25_anyLate_L1 f_1 x_3 runner_4 rival_5 x_8 m_stopwatchref25_anyLate_J2 (((((x_8).length : Int)) - 0 : Int).toNat + 1) 0

def m_stopwatchref25_anyEarly_L1 (f_1 : TField) (x_3 : TOutcome) (runner_4 : Int) (rival_5 : Int) (x_8 : List TOutcome) (k_13 : Unit → Option (Bool)) : Nat → Int → Option (Bool)
  | 0, _ => none
  | n_11 + 1, i_10 =>
    bif decide (i_10 < (((x_8).length : Int))) then
      (idx x_8 i_10).bind fun x_15 =>
      (m_stopwatchref25_early f_1 x_3 runner_4 x_15 rival_5).bind fun r_16 =>
      bif r_16 then some true else
      (m_stopwatchref25_anyEarly_L1 f_1 x_3 runner_4 rival_5 x_8 k_13 n_11) ((w64 (i_10 + 1)))
    else
    k_13 ()

def m_stopwatchref25_anyEarly_J2 (_ : Unit) : Option (Bool) :=
  some false

def m_stopwatchref25_anyEarly (f_1 : TField) (world_2 : Int) (x_3 : TOutcome) (runner_4 : Int) (rival_5 : Int) : Option (Bool) :=
  (idx f_1.Runners rival_5).bind fun x_7 =>
  (idx x_7.Worlds world_2).bind fun x_8 =>
  m_stopwatchref25_anyEarly_L1 f_1 x_3 runner_4 rival_5 x_8 m_stopwatchref25_anyEarly_J2 (((((x_8).length : Int)) - 0 : Int).toNat + 1) 0

def m_stopwatchref25_extremes_L1 (f_1 : TField) (world_2 : Int) (x_3 : TOutcome) (runner_4 : Int) : Nat → Int → Int → Int → Option (Int × Int)
  | 0, _, _, _ => none
  | n_13 + 1, best_10, worst_11, i_12 =>
    bif decide (i_12 < (((f_1.Runners).length : Int))) then
      Option.bind (
        bif i_12 == runner_4 then some (best_10, worst_11) else
        (m_stopwatchref25_anyLate f_1 world_2 x_3 runner_4 i_12).bind fun r_23 =>
        bif !r_23 then
          (m_stopwatchref25_anyEarly f_1 world_2 x_3 runner_4 i_12).bind fun r_26 =>
          bif r_26 then some ((w64 (best_10 + 1)), (w64 (worst_11 + 1))) else
          some ((w64 (best_10 + 1)), worst_11)
        else
        (m_stopwatchref25_anyEarly f_1 world_2 x_3 runner_4 i_12).bind fun r_29 =>
        bif r_29 then some (best_10, (w64 (worst_11 + 1))) else
        some (best_10, worst_11)
      ) fun (best_19, worst_20) =>
      (m_stopwatchref25_extremes_L1 f_1 world_2 x_3 runner_4 n_13) best_19 worst_20 ((w64 (i_12 + 1)))
    else
    some (best_10, worst_11)

def m_stopwatchref25_extremes (f_1 : TField) (world_2 : Int) (x_3 : TOutcome) (runner_4 : Int) : Option (Int × Int) :=
  (m_stopwatchref25_extremes_L1 f_1 world_2 x_3 runner_4 (((((f_1.Runners).length : Int)) - 0 : Int).toNat + 1) 1 1 0).bind fun (best_14, worst_15) =>
  some (best_14, worst_15)

def m_stopwatchref25_Of_L2 (f_1 : TField) (runner_2 : Int) (w_13 : Int) (x_25 : List TOutcome) : Nat → Int → Int → Int → Bool → Option (Int × Int × Bool)
  | 0, _, _, _, _ => none
  | n_34 + 1, i_30, v_31, v_32, v_33 =>
    bif decide (i_30 < (((x_25).length : Int))) then
      (m_stopwatchref25_Possible f_1 w_13).bind fun r_41 =>
      bif r_41 then
        Option.bind (
          (idx x_25 i_30).bind fun x_48 =>
          bif x_48.Out then some (v_31, v_32, true) else
          (idx x_25 i_30).bind fun x_50 =>
          (m_stopwatchref25_extremes f_1 w_13 x_50 runner_2).bind fun (r_51, r_52) =>
          bif v_31 == 0 then some (r_51, (maxG v_32 r_52), v_33) else
          bif decide (r_51 < v_31) then some (r_51, (maxG v_32 r_52), v_33) else
          some (v_31, (maxG v_32 r_52), v_33)
        ) fun (v_44, v_45, v_46) =>
        (m_stopwatchref25_Of_L2 f_1 runner_2 w_13 x_25 n_34) ((w64 (i_30 + 1))) v_44 v_45 v_46
      else
      some (v_31, v_32, v_33)
    else
    some (v_31, v_32, v_33)

def m_stopwatchref25_Of_L1 (f_1 : TField) (runner_2 : Int) : Nat → Int → Int → Int → Bool → Option (Int × Int × Bool)
  | 0, _, _, _, _ => none
  | n_17 + 1, w_13, v_14, v_15, v_16 =>
    bif decide (w_13 ≤ (((f_1.Pairs).length : Int))) then
      (idx f_1.Runners runner_2).bind fun x_24 =>
      (idx x_24.Worlds w_13).bind fun x_25 =>
      (m_stopwatchref25_Of_L2 f_1 runner_2 w_13 x_25 (((((x_25).length : Int)) - 0 : Int).toNat + 1) 0 v_14 v_15 v_16).bind fun (v_35, v_36, v_37) =>
      (m_stopwatchref25_Of_L1 f_1 runner_2 n_17) ((w64 (w_13 + 1))) v_35 v_36 v_37
    else
    some (v_14, v_15, v_16)

def m_stopwatchref25_Of (f_1 : TField) (runner_2 : Int) : Option (TRank × Int) :=
  (m_stopwatchref25_check f_1 runner_2).bind fun r_5 =>
  bif r_5 != 0 then some (({ Bib := 0, Kind := 0, Lo := 0, Hi := 0, Out := false } : TRank), r_5) else
  (idx f_1.Runners runner_2).bind fun x_8 =>
  (m_stopwatchref25_Of_L1 f_1 runner_2 (((((f_1.Pairs).length : Int)) + 1 - 0 : Int).toNat + 1) 0 0 0 false).bind fun (v_18, v_19, v_20) =>
  some (({ Bib := x_8.Bib, Kind := (bif (v_18 == 0) then 3 else (bif (v_18 == v_19) then (bif (!v_20) then 1 else 2) else 2)), Lo := v_18, Hi := v_19, Out := v_20 } : TRank), 0)

def m_ranks_All_L1 (f_1 : TField) : Nat → Int → (List TRank) → Option (List TRank)
  | 0, _, _ => none
  | n_11 + 1, v_9, l_10 =>
    bif decide (v_9 < (((f_1.Runners).length : Int))) then
      (m_ranks_of f_1 v_9).bind fun r_16 =>
      (app 40 l_10 (([r_16] : List TRank))).bind fun l_18 =>
      (m_ranks_All_L1 f_1 n_11) ((w64 (v_9 + 1))) l_18
    else
    some l_10

def m_ranks_All (f_1 : TField) : Option (List TRank × Int) :=
  (m_ranks_check f_1 ((([] : List Int)))).bind fun r_4 =>
  bif r_4 != 0 then some ((([] : List TRank)), r_4) else
  (m_ranks_All_L1 f_1 (((((f_1.Runners).length : Int)) - 0 : Int).toNat + 1) 0 ((([] : List TRank)))).bind fun l_12 =>
  some (l_12, 0)

def m_stopwatchref25_All_L1 (f_1 : TField) : Nat → Int → (List TRank) → Option (List TRank)
  | 0, _, _ => none
  | n_11 + 1, i_9, l_10 =>
    bif decide (i_9 < (((f_1.Runners).length : Int))) then
      (m_stopwatchref25_Of f_1 i_9).bind fun (r_16, r_17) =>
      (app 40 l_10 (([r_16] : List TRank))).bind fun l_19 =>
      (m_stopwatchref25_All_L1 f_1 n_11) ((w64 (i_9 + 1))) l_19
    else
    some l_10

def m_stopwatchref25_All (f_1 : TField) : Option (List TRank × Int) :=
  (m_stopwatchref24_Check f_1).bind fun r_4 =>
  bif r_4 != 0 then some ((([] : List TRank)), 240) else
  (m_stopwatchref25_All_L1 f_1 (((((f_1.Runners).length : Int)) - 0 : Int).toNat + 1) 0 ((([] : List TRank)))).bind fun l_12 =>
  some (l_12, 0)

def m_stopwatchref25_SameRanks_L1 (a_1 : List TRank) (b_2 : List TRank) (k_9 : Unit → Option (Bool)) : Nat → Int → Option (Bool)
  | 0, _ => none
  | n_7 + 1, i_6 =>
    bif decide (i_6 < (((a_1).length : Int))) then
      (idx a_1 i_6).bind fun x_11 =>
      (idx b_2 i_6).bind fun x_12 =>
      bif !((x_11.Bib == x_12.Bib) && ((x_11.Kind == x_12.Kind) && ((x_11.Lo == x_12.Lo) && ((x_11.Hi == x_12.Hi) && ((x_11.Out == x_12.Out) && true))))) then some false else
      (m_stopwatchref25_SameRanks_L1 a_1 b_2 k_9 n_7) ((w64 (i_6 + 1)))
    else
    k_9 ()

def m_stopwatchref25_SameRanks_J2 (_ : Unit) : Option (Bool) :=
  some true

def m_stopwatchref25_SameRanks (a_1 : List TRank) (b_2 : List TRank) : Option (Bool) :=
  bif (((a_1).length : Int)) != (((b_2).length : Int)) then some false else
  m_stopwatchref25_SameRanks_L1 a_1 b_2 m_stopwatchref25_SameRanks_J2 (((((a_1).length : Int)) - 0 : Int).toNat + 1) 0

def m_stopwatchlaw25_RanksOfSpec_L1 (f_1 : TField) (runner_2 : Int) (k_14 : Unit → Option (Bool)) : Nat → Int → Option (Bool)
  | 0, _ => none
  | n_12 + 1, v_11 =>
    bif decide (v_11 < 2) then
      (idx (([runner_2, (bitK .i64 (BitVec.ofInt 64 runner_2 &&& BitVec.ofInt 64 3))] : List Int)) v_11).bind fun x_16 =>
      (m_ranks_Of f_1 x_16).bind fun (r_17, r_18) =>
      (m_stopwatchref25_Of f_1 x_16).bind fun (r_20, r_21) =>
      bif !((r_17.Bib == r_20.Bib) && ((r_17.Kind == r_20.Kind) && ((r_17.Lo == r_20.Lo) && ((r_17.Hi == r_20.Hi) && ((r_17.Out == r_20.Out) && true))))) then some false else
      bif r_18 != r_21 then some false else
      (m_stopwatchlaw25_RanksOfSpec_L1 f_1 runner_2 k_14 n_12) ((w64 (v_11 + 1)))
    else
    k_14 ()

def m_stopwatchlaw25_RanksOfSpec_J2 (f_1 : TField) (_ : Unit) : Option (Bool) :=
  (m_ranks_All f_1).bind fun (r_25, r_26) =>
  (m_stopwatchref25_All f_1).bind fun (r_28, r_29) =>
  (m_stopwatchref25_SameRanks r_25 r_28).bind fun r_31 =>
  bif r_31 then some (r_26 == r_29) else
  some false

def m_stopwatchlaw25_RanksOfSpec (f_1 : TField) (runner_2 : Int) : Option (Bool) :=
  (m_stopwatchlaw25_sane).bind fun r_4 =>
  bif !r_4 then some false else
  (m_stopwatchref25_Few f_1).bind fun r_7 =>
  bif !r_7 then some true else
  m_stopwatchlaw25_RanksOfSpec_L1 f_1 runner_2 (m_stopwatchlaw25_RanksOfSpec_J2 f_1) ((2 - 0 : Int).toNat + 1) 0

def m_ranks_direction_history_1 (k_1 : Int) (c_2 : Int) (c_3 : List TSegment) (c_4 : List (List Int)) (c_5 : List TPair) (c_6 : List TRunner) (c_7 : Int) : Option (Int) :=
  (m_ranks_best_1 c_4 c_7 k_1).bind fun r_9 =>
  some (w64 (c_2 + r_9))

def m_ranks_direction_history_with_ranks_best_2_L1 (f_1 : TField) (x_7 : TOutcome) (r_9 : Int) : Nat → Int → (List Int) → Option (List Int)
  | 0, _, _ => none
  | n_15 + 1, v_13, l_14 =>
    bif decide (v_13 < (((f_1.Clocks.Segments).length : Int))) then
      (m_ranks_direction_history_1 ((w64 (v_13 + 1))) ((w64 (0 - r_9))) f_1.Clocks.Segments f_1.Clocks.Far f_1.Pairs f_1.Runners ((w64 (x_7.Seg + 1)))).bind fun r_20 =>
      (app 8 l_14 (([r_20] : List Int))).bind fun l_22 =>
      (m_ranks_direction_history_with_ranks_best_2_L1 f_1 x_7 r_9 n_15) ((w64 (v_13 + 1))) l_22
    else
    some l_14

def m_ranks_direction_history_with_ranks_best_2_L2 (f_1 : TField) (runner_2 : Int) (p_3 : Tranks_place) (x_7 : TOutcome) : Nat → Int → (List TChoice) → Option (List TChoice)
  | 0, _, _ => none
  | n_28 + 1, v_26, l_27 =>
    bif decide (v_26 < (((f_1.Runners).length : Int))) then
      Option.bind (
        (idx f_1.Runners v_26).bind fun x_35 =>
        bif v_26 != runner_2 then
          (m_ranks_direction_choose_with_ranks_best_2 f_1 p_3.world runner_2 x_7 v_26).bind fun (r_37, r_38) =>
          (idx x_35.Worlds p_3.world).bind fun x_40 =>
          (idx x_40 r_37).bind fun x_41 =>
          bif !x_41.Out then
            (m_ranks_hi x_41).bind fun r_43 =>
            (app 16 l_27 (([({ Outcome := r_37, X := r_43 } : TChoice)] : List TChoice))).bind fun l_45 =>
            some l_45
          else
          (app 16 l_27 (([({ Outcome := r_37, X := 0 } : TChoice)] : List TChoice))).bind fun l_46 =>
          some l_46
        else
        (idx x_35.Worlds p_3.world).bind fun x_47 =>
        (idx x_47 p_3.outcome).bind fun x_48 =>
        bif !x_48.Out then
          (m_ranks_lo x_48).bind fun r_50 =>
          (app 16 l_27 (([({ Outcome := p_3.outcome, X := r_50 } : TChoice)] : List TChoice))).bind fun l_52 =>
          some l_52
        else
        (app 16 l_27 (([({ Outcome := p_3.outcome, X := 0 } : TChoice)] : List TChoice))).bind fun l_53 =>
        some l_53
      ) fun l_33 =>
      (m_ranks_direction_history_with_ranks_best_2_L2 f_1 runner_2 p_3 x_7 n_28) ((w64 (v_26 + 1))) l_33
    else
    some l_27

def m_ranks_direction_history_with_ranks_best_2_L3 (f_1 : TField) (x_7 : TOutcome) : Nat → Int → (List Int) → Option (List Int)
  | 0, _, _ => none
  | n_59 + 1, v_57, l_58 =>
    bif decide (v_57 < (((f_1.Clocks.Segments).length : Int))) then
      (m_ranks_direction_history_1 ((w64 (v_57 + 1))) 0 f_1.Clocks.Segments f_1.Clocks.Far f_1.Pairs f_1.Runners ((w64 (x_7.Seg + 1)))).bind fun r_64 =>
      (app 8 l_58 (([r_64] : List Int))).bind fun l_66 =>
      (m_ranks_direction_history_with_ranks_best_2_L3 f_1 x_7 n_59) ((w64 (v_57 + 1))) l_66
    else
    some l_58

def m_ranks_direction_history_with_ranks_best_2_L4 (f_1 : TField) (runner_2 : Int) (p_3 : Tranks_place) (x_7 : TOutcome) : Nat → Int → (List TChoice) → Option (List TChoice)
  | 0, _, _ => none
  | n_72 + 1, v_70, l_71 =>
    bif decide (v_70 < (((f_1.Runners).length : Int))) then
      Option.bind (
        (idx f_1.Runners v_70).bind fun x_79 =>
        bif v_70 != runner_2 then
          (m_ranks_direction_choose_with_ranks_best_2 f_1 p_3.world runner_2 x_7 v_70).bind fun (r_81, r_82) =>
          (idx x_79.Worlds p_3.world).bind fun x_84 =>
          (idx x_84 r_81).bind fun x_85 =>
          bif !x_85.Out then
            (m_ranks_hi x_85).bind fun r_87 =>
            (app 16 l_71 (([({ Outcome := r_81, X := r_87 } : TChoice)] : List TChoice))).bind fun l_89 =>
            some l_89
          else
          (app 16 l_71 (([({ Outcome := r_81, X := 0 } : TChoice)] : List TChoice))).bind fun l_90 =>
          some l_90
        else
        (idx x_79.Worlds p_3.world).bind fun x_91 =>
        (idx x_91 p_3.outcome).bind fun x_92 =>
        bif !x_92.Out then
          (m_ranks_lo x_92).bind fun r_94 =>
          (app 16 l_71 (([({ Outcome := p_3.outcome, X := r_94 } : TChoice)] : List TChoice))).bind fun l_96 =>
          some l_96
        else
        (app 16 l_71 (([({ Outcome := p_3.outcome, X := 0 } : TChoice)] : List TChoice))).bind fun l_97 =>
        some l_97
      ) fun l_77 =>
      (m_ranks_direction_history_with_ranks_best_2_L4 f_1 runner_2 p_3 x_7 n_72) ((w64 (v_70 + 1))) l_77
    else
    some l_71

def m_ranks_direction_history_with_ranks_best_2 (f_1 : TField) (runner_2 : Int) (p_3 : Tranks_place) : Option (THistory) :=
  (idx f_1.Runners runner_2).bind fun x_5 =>
  (idx x_5.Worlds p_3.world).bind fun x_6 =>
  (idx x_6 p_3.outcome).bind fun x_7 =>
  bif decide ((w64 (x_7.Seg + 1)) > 0) then
    (m_ranks_best_1 f_1.Clocks.Far ((w64 (x_7.Seg + 1))) 0).bind fun r_9 =>
    (m_ranks_direction_history_with_ranks_best_2_L1 f_1 x_7 r_9 (((((f_1.Clocks.Segments).length : Int)) - 0 : Int).toNat + 1) 0 ((([] : List Int)))).bind fun l_16 =>
    (m_ranks_direction_history_with_ranks_best_2_L2 f_1 runner_2 p_3 x_7 (((((f_1.Runners).length : Int)) - 0 : Int).toNat + 1) 0 ((([] : List TChoice)))).bind fun l_29 =>
    some ({ World := p_3.world, Offsets := l_16, Choices := l_29 } : THistory)
  else
  (m_ranks_direction_history_with_ranks_best_2_L3 f_1 x_7 (((((f_1.Clocks.Segments).length : Int)) - 0 : Int).toNat + 1) 0 ((([] : List Int)))).bind fun l_60 =>
  (m_ranks_direction_history_with_ranks_best_2_L4 f_1 runner_2 p_3 x_7 (((((f_1.Runners).length : Int)) - 0 : Int).toNat + 1) 0 ((([] : List TChoice)))).bind fun l_73 =>
  some ({ World := p_3.world, Offsets := l_60, Choices := l_73 } : THistory)

def m_ranks_extreme_with_ranks_best_2 (f_1 : TField) (runner_2 : Int) : Option (THistory × Bool × Int) :=
  (m_ranks_check f_1 ((([runner_2] : List Int)))).bind fun r_6 =>
  bif r_6 != 0 then some (({ World := 0, Offsets := (([] : List Int)), Choices := (([] : List TChoice)) } : THistory), false, r_6) else
  (m_ranks_direction_drive_with_ranks_best_2 f_1 runner_2).bind fun (r_9, r_10) =>
  bif !r_10 then some (({ World := 0, Offsets := (([] : List Int)), Choices := (([] : List TChoice)) } : THistory), false, 0) else
  (m_ranks_direction_history_with_ranks_best_2 f_1 runner_2 r_9).bind fun r_13 =>
  some (r_13, true, 0)

def m_ranks_Best (f_1 : TField) (runner_2 : Int) : Option (THistory × Bool × Int) :=
  (m_ranks_best).bind fun _ =>
  (m_ranks_extreme_with_ranks_best_2 f_1 runner_2).bind fun (r_7, r_8, r_9) =>
  some (r_7, r_8, r_9)

def m_ranks_direction_history_1_v2 (k_1 : Int) (c_2 : Int) (c_3 : List TSegment) (c_4 : List (List Int)) (c_5 : List TPair) (c_6 : List TRunner) (c_7 : Int) : Option (Int) :=
  (m_ranks_worst_1 c_4 c_7 k_1).bind fun r_9 =>
  some (w64 (c_2 + r_9))

def m_ranks_direction_history_with_ranks_worst_2_L1 (f_1 : TField) (x_7 : TOutcome) (r_9 : Int) : Nat → Int → (List Int) → Option (List Int)
  | 0, _, _ => none
  | n_15 + 1, v_13, l_14 =>
    bif decide (v_13 < (((f_1.Clocks.Segments).length : Int))) then
      (m_ranks_direction_history_1_v2 ((w64 (v_13 + 1))) ((w64 (0 - r_9))) f_1.Clocks.Segments f_1.Clocks.Far f_1.Pairs f_1.Runners ((w64 (x_7.Seg + 1)))).bind fun r_20 =>
      (app 8 l_14 (([r_20] : List Int))).bind fun l_22 =>
      (m_ranks_direction_history_with_ranks_worst_2_L1 f_1 x_7 r_9 n_15) ((w64 (v_13 + 1))) l_22
    else
    some l_14

def m_ranks_direction_history_with_ranks_worst_2_L2 (f_1 : TField) (runner_2 : Int) (p_3 : Tranks_place) (x_7 : TOutcome) : Nat → Int → (List TChoice) → Option (List TChoice)
  | 0, _, _ => none
  | n_28 + 1, v_26, l_27 =>
    bif decide (v_26 < (((f_1.Runners).length : Int))) then
      Option.bind (
        (idx f_1.Runners v_26).bind fun x_35 =>
        bif v_26 != runner_2 then
          (m_ranks_direction_choose_with_ranks_worst_2 f_1 p_3.world runner_2 x_7 v_26).bind fun (r_37, r_38) =>
          (idx x_35.Worlds p_3.world).bind fun x_40 =>
          (idx x_40 r_37).bind fun x_41 =>
          bif !x_41.Out then
            (m_ranks_lo x_41).bind fun r_43 =>
            (app 16 l_27 (([({ Outcome := r_37, X := r_43 } : TChoice)] : List TChoice))).bind fun l_45 =>
            some l_45
          else
          (app 16 l_27 (([({ Outcome := r_37, X := 0 } : TChoice)] : List TChoice))).bind fun l_46 =>
          some l_46
        else
        (idx x_35.Worlds p_3.world).bind fun x_47 =>
        (idx x_47 p_3.outcome).bind fun x_48 =>
        bif !x_48.Out then
          (m_ranks_hi x_48).bind fun r_50 =>
          (app 16 l_27 (([({ Outcome := p_3.outcome, X := r_50 } : TChoice)] : List TChoice))).bind fun l_52 =>
          some l_52
        else
        (app 16 l_27 (([({ Outcome := p_3.outcome, X := 0 } : TChoice)] : List TChoice))).bind fun l_53 =>
        some l_53
      ) fun l_33 =>
      (m_ranks_direction_history_with_ranks_worst_2_L2 f_1 runner_2 p_3 x_7 n_28) ((w64 (v_26 + 1))) l_33
    else
    some l_27

def m_ranks_direction_history_with_ranks_worst_2_L3 (f_1 : TField) (x_7 : TOutcome) : Nat → Int → (List Int) → Option (List Int)
  | 0, _, _ => none
  | n_59 + 1, v_57, l_58 =>
    bif decide (v_57 < (((f_1.Clocks.Segments).length : Int))) then
      (m_ranks_direction_history_1_v2 ((w64 (v_57 + 1))) 0 f_1.Clocks.Segments f_1.Clocks.Far f_1.Pairs f_1.Runners ((w64 (x_7.Seg + 1)))).bind fun r_64 =>
      (app 8 l_58 (([r_64] : List Int))).bind fun l_66 =>
      (m_ranks_direction_history_with_ranks_worst_2_L3 f_1 x_7 n_59) ((w64 (v_57 + 1))) l_66
    else
    some l_58

def m_ranks_direction_history_with_ranks_worst_2_L4 (f_1 : TField) (runner_2 : Int) (p_3 : Tranks_place) (x_7 : TOutcome) : Nat → Int → (List TChoice) → Option (List TChoice)
  | 0, _, _ => none
  | n_72 + 1, v_70, l_71 =>
    bif decide (v_70 < (((f_1.Runners).length : Int))) then
      Option.bind (
        (idx f_1.Runners v_70).bind fun x_79 =>
        bif v_70 != runner_2 then
          (m_ranks_direction_choose_with_ranks_worst_2 f_1 p_3.world runner_2 x_7 v_70).bind fun (r_81, r_82) =>
          (idx x_79.Worlds p_3.world).bind fun x_84 =>
          (idx x_84 r_81).bind fun x_85 =>
          bif !x_85.Out then
            (m_ranks_lo x_85).bind fun r_87 =>
            (app 16 l_71 (([({ Outcome := r_81, X := r_87 } : TChoice)] : List TChoice))).bind fun l_89 =>
            some l_89
          else
          (app 16 l_71 (([({ Outcome := r_81, X := 0 } : TChoice)] : List TChoice))).bind fun l_90 =>
          some l_90
        else
        (idx x_79.Worlds p_3.world).bind fun x_91 =>
        (idx x_91 p_3.outcome).bind fun x_92 =>
        bif !x_92.Out then
          (m_ranks_hi x_92).bind fun r_94 =>
          (app 16 l_71 (([({ Outcome := p_3.outcome, X := r_94 } : TChoice)] : List TChoice))).bind fun l_96 =>
          some l_96
        else
        (app 16 l_71 (([({ Outcome := p_3.outcome, X := 0 } : TChoice)] : List TChoice))).bind fun l_97 =>
        some l_97
      ) fun l_77 =>
      (m_ranks_direction_history_with_ranks_worst_2_L4 f_1 runner_2 p_3 x_7 n_72) ((w64 (v_70 + 1))) l_77
    else
    some l_71

def m_ranks_direction_history_with_ranks_worst_2 (f_1 : TField) (runner_2 : Int) (p_3 : Tranks_place) : Option (THistory) :=
  (idx f_1.Runners runner_2).bind fun x_5 =>
  (idx x_5.Worlds p_3.world).bind fun x_6 =>
  (idx x_6 p_3.outcome).bind fun x_7 =>
  bif decide ((w64 (x_7.Seg + 1)) > 0) then
    (m_ranks_worst_1 f_1.Clocks.Far ((w64 (x_7.Seg + 1))) 0).bind fun r_9 =>
    (m_ranks_direction_history_with_ranks_worst_2_L1 f_1 x_7 r_9 (((((f_1.Clocks.Segments).length : Int)) - 0 : Int).toNat + 1) 0 ((([] : List Int)))).bind fun l_16 =>
    (m_ranks_direction_history_with_ranks_worst_2_L2 f_1 runner_2 p_3 x_7 (((((f_1.Runners).length : Int)) - 0 : Int).toNat + 1) 0 ((([] : List TChoice)))).bind fun l_29 =>
    some ({ World := p_3.world, Offsets := l_16, Choices := l_29 } : THistory)
  else
  (m_ranks_direction_history_with_ranks_worst_2_L3 f_1 x_7 (((((f_1.Clocks.Segments).length : Int)) - 0 : Int).toNat + 1) 0 ((([] : List Int)))).bind fun l_60 =>
  (m_ranks_direction_history_with_ranks_worst_2_L4 f_1 runner_2 p_3 x_7 (((((f_1.Runners).length : Int)) - 0 : Int).toNat + 1) 0 ((([] : List TChoice)))).bind fun l_73 =>
  some ({ World := p_3.world, Offsets := l_60, Choices := l_73 } : THistory)

def m_ranks_extreme_with_ranks_worst_2 (f_1 : TField) (runner_2 : Int) : Option (THistory × Bool × Int) :=
  (m_ranks_check f_1 ((([runner_2] : List Int)))).bind fun r_6 =>
  bif r_6 != 0 then some (({ World := 0, Offsets := (([] : List Int)), Choices := (([] : List TChoice)) } : THistory), false, r_6) else
  (m_ranks_direction_drive_with_ranks_worst_2 f_1 runner_2).bind fun (r_9, r_10) =>
  bif !r_10 then some (({ World := 0, Offsets := (([] : List Int)), Choices := (([] : List TChoice)) } : THistory), false, 0) else
  (m_ranks_direction_history_with_ranks_worst_2 f_1 runner_2 r_9).bind fun r_13 =>
  some (r_13, true, 0)

def m_ranks_Worst (f_1 : TField) (runner_2 : Int) : Option (THistory × Bool × Int) :=
  (m_ranks_worst).bind fun _ =>
  (m_ranks_extreme_with_ranks_worst_2 f_1 runner_2).bind fun (r_7, r_8, r_9) =>
  some (r_7, r_8, r_9)

def m_stopwatchlaw25_ranksZero (h_1 : THistory) : Option (Bool) :=
  bif h_1.World == 0 then
    bif (((h_1.Offsets).length : Int)) == 0 then some ((((h_1.Choices).length : Int)) == 0) else
    some false
  else
  some false

def m_stopwatchref25_Admissible_L1 (l_9 : List Int) (k_14 : Unit → Option (Bool)) : Nat → Int → Option (Bool)
  | 0, _ => none
  | n_12 + 1, i_11 =>
    bif decide (i_11 < (((l_9).length : Int))) then
      (idx l_9 i_11).bind fun x_16 =>
      bif decide (x_16 < (-1125899906842624)) then some false else
      (idx l_9 i_11).bind fun x_18 =>
      bif decide (x_18 > 1125899906842624) then some false else
      (m_stopwatchref25_Admissible_L1 l_9 k_14 n_12) ((w64 (i_11 + 1)))
    else
    k_14 ()

def m_stopwatchref25_Admissible_L3 (f_1 : TField) (l_9 : List Int) (i_21 : Int) (k_30 : Unit → Option (Bool)) : Nat → Int → Option (Bool)
  | 0, _ => none
  | n_28 + 1, k_27 =>
    bif decide (k_27 < (((l_9).length : Int))) then
      (idx l_9 k_27).bind fun x_32 =>
      (idx l_9 i_21).bind fun x_33 =>
      (idx f_1.Clocks.Far i_21).bind fun x_34 =>
      (idx x_34 k_27).bind fun x_35 =>
      bif decide ((w64 (x_32 - x_33)) > x_35) then some false else
      (m_stopwatchref25_Admissible_L3 f_1 l_9 i_21 k_30 n_28) ((w64 (k_27 + 1)))
    else
    k_30 ()

def m_stopwatchref25_Admissible_J4 (i_21 : Int) (nx_23 : Int → Option (Bool)) (_ : Unit) : Option (Bool) :=
  nx_23 ((w64 (i_21 + 1)))

def m_stopwatchref25_Admissible_L2 (f_1 : TField) (l_9 : List Int) (k_24 : Unit → Option (Bool)) : Nat → Int → Option (Bool)
  | 0, _ => none
  | n_22 + 1, i_21 =>
    bif decide (i_21 < (((l_9).length : Int))) then m_stopwatchref25_Admissible_L3 f_1 l_9 i_21 (m_stopwatchref25_Admissible_J4 i_21 (m_stopwatchref25_Admissible_L2 f_1 l_9 k_24 n_22)) (((((l_9).length : Int)) - 0 : Int).toNat + 1) 0 else
    k_24 ()

def m_stopwatchref25_Admissible_L5 (f_1 : TField) (h_2 : THistory) (k_41 : Unit → Option (Bool)) : Nat → Int → Option (Bool)
  | 0, _ => none
  | n_39 + 1, i_38 =>
    bif decide (i_38 < (((h_2.Choices).length : Int))) then
      (idx f_1.Runners i_38).bind fun x_43 =>
      (idx x_43.Worlds h_2.World).bind fun x_44 =>
      (idx h_2.Choices i_38).bind fun x_45 =>
      bif decide (x_45.Outcome < 0) then some false else
      bif decide (x_45.Outcome ≥ (((x_44).length : Int))) then some false else
      (idx x_44 x_45.Outcome).bind fun x_48 =>
      bif bif x_48.Out then (x_45.X != 0) else ((decide (x_45.X < x_48.Lo)) || (decide (x_45.X > x_48.Hi))) then some false else
      (m_stopwatchref25_Admissible_L5 f_1 h_2 k_41 n_39) ((w64 (i_38 + 1)))
    else
    k_41 ()

def m_stopwatchref25_Admissible_J6 (_ : Unit) : Option (Bool) :=
  some true

def m_stopwatchref25_Admissible_J7 (f_1 : TField) (h_2 : THistory) (_ : Unit) : Option (Bool) :=
  m_stopwatchref25_Admissible_L5 f_1 h_2 m_stopwatchref25_Admissible_J6 (((((h_2.Choices).length : Int)) - 0 : Int).toNat + 1) 0

def m_stopwatchref25_Admissible_J8 (f_1 : TField) (h_2 : THistory) (l_9 : List Int) (_ : Unit) : Option (Bool) :=
  m_stopwatchref25_Admissible_L2 f_1 l_9 (m_stopwatchref25_Admissible_J7 f_1 h_2) (((((l_9).length : Int)) - 0 : Int).toNat + 1) 0

def m_stopwatchref25_Admissible (f_1 : TField) (h_2 : THistory) : Option (Bool) :=
  (m_stopwatchref25_Possible f_1 h_2.World).bind fun r_4 =>
  bif !r_4 then some false else
  bif (((h_2.Offsets).length : Int)) != (((f_1.Clocks.Segments).length : Int)) then some false else
  bif (((h_2.Choices).length : Int)) != (((f_1.Runners).length : Int)) then some false else
  (app 8 (([0] : List Int)) h_2.Offsets).bind fun l_9 =>
  m_stopwatchref25_Admissible_L1 l_9 (m_stopwatchref25_Admissible_J8 f_1 h_2 l_9) (((((l_9).length : Int)) - 0 : Int).toNat + 1) 0

def m_stopwatchref25_Outcome (f_1 : TField) (h_2 : THistory) (runner_3 : Int) : Option (TOutcome) :=
  (idx f_1.Runners runner_3).bind fun x_5 =>
  (idx x_5.Worlds h_2.World).bind fun x_6 =>
  (idx h_2.Choices runner_3).bind fun x_7 =>
  (idx x_6 x_7.Outcome).bind fun x_8 =>
  some x_8

def m_stopwatchref25_offset (h_1 : THistory) (x_2 : TOutcome) : Option (Int) :=
  bif decide (x_2.Seg < 0) then some 0 else
  (idx h_1.Offsets x_2.Seg).bind fun x_5 =>
  some x_5

def m_stopwatchref25_Net (f_1 : TField) (h_2 : THistory) (runner_3 : Int) : Option (Int × Bool) :=
  (m_stopwatchref25_Outcome f_1 h_2 runner_3).bind fun r_6 =>
  bif r_6.Out then some (0, false) else
  (idx h_2.Choices runner_3).bind fun x_9 =>
  (m_stopwatchref25_offset h_2 r_6).bind fun r_10 =>
  some ((w64 (x_9.X + r_10)), true)

def m_stopwatchref25_InFront (f_1 : TField) (h_2 : THistory) (a_3 : Int) (b_4 : Int) : Option (Bool) :=
  (m_stopwatchref25_Net f_1 h_2 a_3).bind fun (r_6, r_7) =>
  (m_stopwatchref25_Net f_1 h_2 b_4).bind fun (r_9, r_10) =>
  bif !r_7 then some r_7 else
  bif !r_10 then some r_7 else
  bif decide (r_6 < r_9) then some true else
  bif r_6 == r_9 then
    (idx f_1.Runners a_3).bind fun x_16 =>
    (idx f_1.Runners b_4).bind fun x_17 =>
    (m_stopwatchref25_Less x_16.Keys x_17.Keys).bind fun r_18 =>
    some r_18
  else
  some false

def m_stopwatchref25_Rank_L1 (f_1 : TField) (h_2 : THistory) (runner_3 : Int) : Nat → Int → Int → Option (Int)
  | 0, _, _ => none
  | n_13 + 1, n_11, i_12 =>
    bif decide (i_12 < (((f_1.Runners).length : Int))) then
      (m_stopwatchref25_InFront f_1 h_2 i_12 runner_3).bind fun r_18 =>
      bif r_18 then (m_stopwatchref25_Rank_L1 f_1 h_2 runner_3 n_13) ((w64 (n_11 + 1))) ((w64 (i_12 + 1))) else
      (m_stopwatchref25_Rank_L1 f_1 h_2 runner_3 n_13) n_11 ((w64 (i_12 + 1)))
    else
    some n_11

def m_stopwatchref25_Rank (f_1 : TField) (h_2 : THistory) (runner_3 : Int) : Option (Int) :=
  (m_stopwatchref25_Net f_1 h_2 runner_3).bind fun (r_5, r_6) =>
  bif !r_6 then some 0 else
  (m_stopwatchref25_Rank_L1 f_1 h_2 runner_3 (((((f_1.Runners).length : Int)) - 0 : Int).toNat + 1) 1 0).bind fun n_14 =>
  some n_14

def m_stopwatchlaw25_RanksBestSpec (f_1 : TField) (runner_2 : Int) : Option (Bool) :=
  (m_stopwatchlaw25_sane).bind fun r_4 =>
  bif !r_4 then some false else
  (m_stopwatchref25_Few f_1).bind fun r_7 =>
  bif !r_7 then some true else
  (m_stopwatchref25_Of f_1 runner_2).bind fun (r_10, r_11) =>
  (m_ranks_Best f_1 runner_2).bind fun (r_13, r_14, r_15) =>
  (m_ranks_Worst f_1 runner_2).bind fun (r_17, r_18, r_19) =>
  bif r_11 != r_15 then some false else
  bif r_11 != r_19 then some false else
  bif (r_11 != 0) || (r_10.Kind == 3) then
    Option.bind (
      bif !r_14 then
        bif !r_18 then
          (m_stopwatchlaw25_ranksZero r_13).bind fun r_30 =>
          bif r_30 then
            (m_stopwatchlaw25_ranksZero r_17).bind fun r_33 =>
            some r_33
          else
          some false
        else
        some false
      else
      some false
    ) fun v_26 =>
    some v_26
  else
  Option.bind (
    bif r_14 then
      bif r_18 then
        (m_stopwatchref25_Admissible f_1 r_13).bind fun r_39 =>
        bif r_39 then
          (m_stopwatchref25_Admissible f_1 r_17).bind fun r_42 =>
          bif r_42 then
            (m_stopwatchref25_Rank f_1 r_13 runner_2).bind fun r_45 =>
            bif r_45 == r_10.Lo then
              (m_stopwatchref25_Rank f_1 r_17 runner_2).bind fun r_48 =>
              some (r_48 == r_10.Hi)
            else
            some false
          else
          some false
        else
        some false
      else
      some false
    else
    some false
  ) fun v_35 =>
  some v_35

def m_stopwatchlaw25_RanksShifted_L3 (by_2 : Int) (x_32 : List TOutcome) : Nat → Int → (List TOutcome) → Option (List TOutcome)
  | 0, _, _ => none
  | n_37 + 1, v_35, l_36 =>
    bif decide (v_35 < (((x_32).length : Int))) then
      (idx x_32 v_35).bind fun x_42 =>
      bif !x_42.Out then
        (app 32 l_36 (([({ Out := x_42.Out, Seg := x_42.Seg, Lo := (w64 (x_42.Lo + (bitK .i64 (BitVec.ofInt 64 by_2 &&& BitVec.ofInt 64 1048575)))), Hi := (w64 (x_42.Hi + (bitK .i64 (BitVec.ofInt 64 by_2 &&& BitVec.ofInt 64 1048575)))) } : TOutcome)] : List TOutcome))).bind fun l_44 =>
        (m_stopwatchlaw25_RanksShifted_L3 by_2 x_32 n_37) ((w64 (v_35 + 1))) l_44
      else
      (app 32 l_36 (([x_42] : List TOutcome))).bind fun l_45 =>
      (m_stopwatchlaw25_RanksShifted_L3 by_2 x_32 n_37) ((w64 (v_35 + 1))) l_45
    else
    some l_36

def m_stopwatchlaw25_RanksShifted_L2 (by_2 : Int) (x_22 : TRunner) : Nat → Int → (List (List TOutcome)) → Option (List (List TOutcome))
  | 0, _, _ => none
  | n_27 + 1, v_25, l_26 =>
    bif decide (v_25 < (((x_22.Worlds).length : Int))) then
      (idx x_22.Worlds v_25).bind fun x_32 =>
      (m_stopwatchlaw25_RanksShifted_L3 by_2 x_32 (((((x_32).length : Int)) - 0 : Int).toNat + 1) 0 ((([] : List TOutcome)))).bind fun l_38 =>
      (app 24 l_26 (([l_38] : List (List TOutcome)))).bind fun l_47 =>
      (m_stopwatchlaw25_RanksShifted_L2 by_2 x_22 n_27) ((w64 (v_25 + 1))) l_47
    else
    some l_26

def m_stopwatchlaw25_RanksShifted_L1 (f_1 : TField) (by_2 : Int) : Nat → Int → (List TRunner) → Option (List TRunner)
  | 0, _, _ => none
  | n_17 + 1, v_15, l_16 =>
    bif decide (v_15 < (((f_1.Runners).length : Int))) then
      (idx f_1.Runners v_15).bind fun x_22 =>
      (m_stopwatchlaw25_RanksShifted_L2 by_2 x_22 (((((x_22.Worlds).length : Int)) - 0 : Int).toNat + 1) 0 ((([] : List (List TOutcome))))).bind fun l_28 =>
      (app 56 l_16 (([({ Bib := x_22.Bib, Keys := x_22.Keys, Worlds := l_28 } : TRunner)] : List TRunner))).bind fun l_49 =>
      (m_stopwatchlaw25_RanksShifted_L1 f_1 by_2 n_17) ((w64 (v_15 + 1))) l_49
    else
    some l_16

def m_stopwatchlaw25_RanksShifted (f_1 : TField) (by_2 : Int) : Option (Bool) :=
  (m_stopwatchlaw25_sane).bind fun r_4 =>
  bif !r_4 then some false else
  (m_stopwatchref25_Few f_1).bind fun r_7 =>
  bif !r_7 then some true else
  (m_stopwatchref24_Check f_1).bind fun r_10 =>
  bif r_10 != 0 then some true else
  (m_stopwatchlaw25_RanksShifted_L1 f_1 by_2 (((((f_1.Runners).length : Int)) - 0 : Int).toNat + 1) 0 ((([] : List TRunner)))).bind fun l_18 =>
  (m_stopwatchref24_Check ({ Clocks := f_1.Clocks, Pairs := f_1.Pairs, Runners := l_18 } : TField)).bind fun r_51 =>
  bif r_51 != 0 then some true else
  (m_ranks_All f_1).bind fun (r_54, r_55) =>
  (m_ranks_All ({ Clocks := f_1.Clocks, Pairs := f_1.Pairs, Runners := l_18 } : TField)).bind fun (r_57, r_58) =>
  bif r_55 == 0 then
    bif r_58 == 0 then
      (m_stopwatchref25_SameRanks r_54 r_57).bind fun r_62 =>
      some r_62
    else
    some false
  else
  some false

def m_stopwatchlaw25_RanksCounts_L2 (f_1 : TField) (r_12 : List TRank) (v_18 : Int) (k_34 : Int → Int → Option (Bool)) : Nat → Int → Int → Int → Option (Bool)
  | 0, _, _, _ => none
  | n_30 + 1, sure_27, may_28, v_29 =>
    bif decide (v_29 < (((r_12).length : Int))) then
      (m_ranks_Ahead f_1 v_29 v_18).bind fun (r_36, r_37, r_38) =>
      bif r_38 != 0 then some false else
      bif r_36 then
        bif !r_37 then some false else
        (m_stopwatchlaw25_RanksCounts_L2 f_1 r_12 v_18 k_34 n_30) ((w64 (sure_27 + 1))) ((w64 (may_28 + 1))) ((w64 (v_29 + 1)))
      else
      bif r_37 then (m_stopwatchlaw25_RanksCounts_L2 f_1 r_12 v_18 k_34 n_30) sure_27 ((w64 (may_28 + 1))) ((w64 (v_29 + 1))) else
      (m_stopwatchlaw25_RanksCounts_L2 f_1 r_12 v_18 k_34 n_30) sure_27 may_28 ((w64 (v_29 + 1)))
    else
    k_34 sure_27 may_28

def m_stopwatchlaw25_RanksCounts_J3 (v_18 : Int) (nx_20 : Int → Option (Bool)) (x_23 : TRank) (sure_31 : Int) (may_32 : Int) : Option (Bool) :=
  bif (x_23.Kind != 3) && ((decide (x_23.Lo < sure_31)) || ((decide (x_23.Hi > may_32)) || (decide (x_23.Lo > x_23.Hi)))) then some false else
  nx_20 ((w64 (v_18 + 1)))

def m_stopwatchlaw25_RanksCounts_L1 (f_1 : TField) (r_12 : List TRank) (k_21 : Unit → Option (Bool)) : Nat → Int → Option (Bool)
  | 0, _ => none
  | n_19 + 1, v_18 =>
    bif decide (v_18 < (((r_12).length : Int))) then
      (idx r_12 v_18).bind fun x_23 =>
      m_stopwatchlaw25_RanksCounts_L2 f_1 r_12 v_18 (m_stopwatchlaw25_RanksCounts_J3 v_18 (m_stopwatchlaw25_RanksCounts_L1 f_1 r_12 k_21 n_19) x_23) (((((r_12).length : Int)) - 0 : Int).toNat + 1) 1 1 0
    else
    k_21 ()

def m_stopwatchlaw25_RanksCounts_J4 (_ : Unit) : Option (Bool) :=
  some true

def m_stopwatchlaw25_RanksCounts (f_1 : TField) : Option (Bool) :=
  (m_stopwatchlaw25_sane).bind fun r_3 =>
  bif !r_3 then some false else
  (m_stopwatchref25_Few f_1).bind fun r_6 =>
  bif !r_6 then some true else
  (m_stopwatchref24_Check f_1).bind fun r_9 =>
  bif r_9 != 0 then some true else
  (m_ranks_All f_1).bind fun (r_12, r_13) =>
  bif r_13 != 0 then some false else
  bif (((r_12).length : Int)) != (((f_1.Runners).length : Int)) then some false else
  m_stopwatchlaw25_RanksCounts_L1 f_1 r_12 m_stopwatchlaw25_RanksCounts_J4 (((((r_12).length : Int)) - 0 : Int).toNat + 1) 0

def m_stopwatchlaw25_history_1 (v_1 : Int) (v_2 : List Int) : Option (Int × Int) :=
  bif decide (v_1 ≥ (((v_2).length : Int))) then some (0, v_1) else
  (idx v_2 (w64 ((w64 (v_1 + 1)) - 1))).bind fun x_6 =>
  some (x_6, (w64 (v_1 + 1)))

def m_stopwatchlaw25_history_L1 (f_1 : TField) (picks_2 : List Int) : Nat → Int → Int → (List Int) → Option (Int × List Int)
  | 0, _, _, _ => none
  | n_11 + 1, v_8, v_9, l_10 =>
    bif decide (v_8 < (((f_1.Clocks.Segments).length : Int))) then
      (m_stopwatchlaw25_history_1 v_9 picks_2).bind fun (r_17, b_18) =>
      (app 8 l_10 (([r_17] : List Int))).bind fun l_20 =>
      (m_stopwatchlaw25_history_L1 f_1 picks_2 n_11) ((w64 (v_8 + 1))) b_18 l_20
    else
    some (v_9, l_10)

def m_stopwatchlaw25_history_L2 (f_1 : TField) (picks_2 : List Int) : Nat → Int → Int → (List TChoice) → Option (List TChoice)
  | 0, _, _, _ => none
  | n_28 + 1, v_25, v_26, l_27 =>
    bif decide (v_25 < (((f_1.Runners).length : Int))) then
      Option.bind (
        (idx f_1.Runners v_25).bind fun x_36 =>
        bif decide (v_26 ≥ (((picks_2).length : Int))) then
          Option.bind (
            bif decide ((bitK .i64 (BitVec.ofInt 64 0 &&& BitVec.ofInt 64 3)) < (((x_36.Worlds).length : Int))) then
              (idx x_36.Worlds (bitK .i64 (BitVec.ofInt 64 0 &&& BitVec.ofInt 64 3))).bind fun x_41 =>
              some (decide ((bitK .i64 (BitVec.ofInt 64 0 &&& BitVec.ofInt 64 3)) < (((x_41).length : Int))))
            else
            some false
          ) fun v_38 =>
          bif v_38 then
            (idx x_36.Worlds (bitK .i64 (BitVec.ofInt 64 0 &&& BitVec.ofInt 64 3))).bind fun x_43 =>
            (idx x_43 (bitK .i64 (BitVec.ofInt 64 0 &&& BitVec.ofInt 64 3))).bind fun x_44 =>
            bif !x_44.Out then
              (m_stopwatchlaw25_history_1 v_26 picks_2).bind fun (r_46, b_47) =>
              (app 16 l_27 (([({ Outcome := (bitK .i64 (BitVec.ofInt 64 0 &&& BitVec.ofInt 64 3)), X := (w64 (x_44.Lo + (bitK .i64 (BitVec.ofInt 64 r_46 &&& BitVec.ofInt 64 3)))) } : TChoice)] : List TChoice))).bind fun l_49 =>
              some (b_47, l_49)
            else
            (app 16 l_27 (([({ Outcome := (bitK .i64 (BitVec.ofInt 64 0 &&& BitVec.ofInt 64 3)), X := 0 } : TChoice)] : List TChoice))).bind fun l_50 =>
            some (v_26, l_50)
          else
          (app 16 l_27 (([({ Outcome := (bitK .i64 (BitVec.ofInt 64 0 &&& BitVec.ofInt 64 3)), X := 0 } : TChoice)] : List TChoice))).bind fun l_51 =>
          some (v_26, l_51)
        else
        (idx picks_2 (w64 ((w64 (v_26 + 1)) - 1))).bind fun x_52 =>
        Option.bind (
          bif decide ((bitK .i64 (BitVec.ofInt 64 0 &&& BitVec.ofInt 64 3)) < (((x_36.Worlds).length : Int))) then
            (idx x_36.Worlds (bitK .i64 (BitVec.ofInt 64 0 &&& BitVec.ofInt 64 3))).bind fun x_56 =>
            some (decide ((bitK .i64 (BitVec.ofInt 64 x_52 &&& BitVec.ofInt 64 3)) < (((x_56).length : Int))))
          else
          some false
        ) fun v_53 =>
        bif v_53 then
          (idx x_36.Worlds (bitK .i64 (BitVec.ofInt 64 0 &&& BitVec.ofInt 64 3))).bind fun x_58 =>
          (idx x_58 (bitK .i64 (BitVec.ofInt 64 x_52 &&& BitVec.ofInt 64 3))).bind fun x_59 =>
          bif !x_59.Out then
            (m_stopwatchlaw25_history_1 ((w64 (v_26 + 1))) picks_2).bind fun (r_61, b_62) =>
            (app 16 l_27 (([({ Outcome := (bitK .i64 (BitVec.ofInt 64 x_52 &&& BitVec.ofInt 64 3)), X := (w64 (x_59.Lo + (bitK .i64 (BitVec.ofInt 64 r_61 &&& BitVec.ofInt 64 3)))) } : TChoice)] : List TChoice))).bind fun l_64 =>
            some (b_62, l_64)
          else
          (app 16 l_27 (([({ Outcome := (bitK .i64 (BitVec.ofInt 64 x_52 &&& BitVec.ofInt 64 3)), X := 0 } : TChoice)] : List TChoice))).bind fun l_65 =>
          some ((w64 (v_26 + 1)), l_65)
        else
        (app 16 l_27 (([({ Outcome := (bitK .i64 (BitVec.ofInt 64 x_52 &&& BitVec.ofInt 64 3)), X := 0 } : TChoice)] : List TChoice))).bind fun l_66 =>
        some ((w64 (v_26 + 1)), l_66)
      ) fun (v_33, l_34) =>
      (m_stopwatchlaw25_history_L2 f_1 picks_2 n_28) ((w64 (v_25 + 1))) v_33 l_34
    else
    some l_27

def m_stopwatchlaw25_history_L3 (f_1 : TField) (picks_2 : List Int) : Nat → Int → Int → (List Int) → Option (Int × List Int)
  | 0, _, _, _ => none
  | n_75 + 1, v_72, v_73, l_74 =>
    bif decide (v_72 < (((f_1.Clocks.Segments).length : Int))) then
      (m_stopwatchlaw25_history_1 v_73 picks_2).bind fun (r_81, b_82) =>
      (app 8 l_74 (([r_81] : List Int))).bind fun l_84 =>
      (m_stopwatchlaw25_history_L3 f_1 picks_2 n_75) ((w64 (v_72 + 1))) b_82 l_84
    else
    some (v_73, l_74)

def m_stopwatchlaw25_history_L4 (f_1 : TField) (picks_2 : List Int) (x_68 : Int) : Nat → Int → Int → (List TChoice) → Option (List TChoice)
  | 0, _, _, _ => none
  | n_92 + 1, v_89, v_90, l_91 =>
    bif decide (v_89 < (((f_1.Runners).length : Int))) then
      Option.bind (
        (idx f_1.Runners v_89).bind fun x_100 =>
        bif decide (v_90 ≥ (((picks_2).length : Int))) then
          Option.bind (
            bif decide ((bitK .i64 (BitVec.ofInt 64 x_68 &&& BitVec.ofInt 64 3)) < (((x_100.Worlds).length : Int))) then
              (idx x_100.Worlds (bitK .i64 (BitVec.ofInt 64 x_68 &&& BitVec.ofInt 64 3))).bind fun x_105 =>
              some (decide ((bitK .i64 (BitVec.ofInt 64 0 &&& BitVec.ofInt 64 3)) < (((x_105).length : Int))))
            else
            some false
          ) fun v_102 =>
          bif v_102 then
            (idx x_100.Worlds (bitK .i64 (BitVec.ofInt 64 x_68 &&& BitVec.ofInt 64 3))).bind fun x_107 =>
            (idx x_107 (bitK .i64 (BitVec.ofInt 64 0 &&& BitVec.ofInt 64 3))).bind fun x_108 =>
            bif !x_108.Out then
              (m_stopwatchlaw25_history_1 v_90 picks_2).bind fun (r_110, b_111) =>
              (app 16 l_91 (([({ Outcome := (bitK .i64 (BitVec.ofInt 64 0 &&& BitVec.ofInt 64 3)), X := (w64 (x_108.Lo + (bitK .i64 (BitVec.ofInt 64 r_110 &&& BitVec.ofInt 64 3)))) } : TChoice)] : List TChoice))).bind fun l_113 =>
              some (b_111, l_113)
            else
            (app 16 l_91 (([({ Outcome := (bitK .i64 (BitVec.ofInt 64 0 &&& BitVec.ofInt 64 3)), X := 0 } : TChoice)] : List TChoice))).bind fun l_114 =>
            some (v_90, l_114)
          else
          (app 16 l_91 (([({ Outcome := (bitK .i64 (BitVec.ofInt 64 0 &&& BitVec.ofInt 64 3)), X := 0 } : TChoice)] : List TChoice))).bind fun l_115 =>
          some (v_90, l_115)
        else
        (idx picks_2 (w64 ((w64 (v_90 + 1)) - 1))).bind fun x_116 =>
        Option.bind (
          bif decide ((bitK .i64 (BitVec.ofInt 64 x_68 &&& BitVec.ofInt 64 3)) < (((x_100.Worlds).length : Int))) then
            (idx x_100.Worlds (bitK .i64 (BitVec.ofInt 64 x_68 &&& BitVec.ofInt 64 3))).bind fun x_120 =>
            some (decide ((bitK .i64 (BitVec.ofInt 64 x_116 &&& BitVec.ofInt 64 3)) < (((x_120).length : Int))))
          else
          some false
        ) fun v_117 =>
        bif v_117 then
          (idx x_100.Worlds (bitK .i64 (BitVec.ofInt 64 x_68 &&& BitVec.ofInt 64 3))).bind fun x_122 =>
          (idx x_122 (bitK .i64 (BitVec.ofInt 64 x_116 &&& BitVec.ofInt 64 3))).bind fun x_123 =>
          bif !x_123.Out then
            (m_stopwatchlaw25_history_1 ((w64 (v_90 + 1))) picks_2).bind fun (r_125, b_126) =>
            (app 16 l_91 (([({ Outcome := (bitK .i64 (BitVec.ofInt 64 x_116 &&& BitVec.ofInt 64 3)), X := (w64 (x_123.Lo + (bitK .i64 (BitVec.ofInt 64 r_125 &&& BitVec.ofInt 64 3)))) } : TChoice)] : List TChoice))).bind fun l_128 =>
            some (b_126, l_128)
          else
          (app 16 l_91 (([({ Outcome := (bitK .i64 (BitVec.ofInt 64 x_116 &&& BitVec.ofInt 64 3)), X := 0 } : TChoice)] : List TChoice))).bind fun l_129 =>
          some ((w64 (v_90 + 1)), l_129)
        else
        (app 16 l_91 (([({ Outcome := (bitK .i64 (BitVec.ofInt 64 x_116 &&& BitVec.ofInt 64 3)), X := 0 } : TChoice)] : List TChoice))).bind fun l_130 =>
        some ((w64 (v_90 + 1)), l_130)
      ) fun (v_97, l_98) =>
      (m_stopwatchlaw25_history_L4 f_1 picks_2 x_68 n_92) ((w64 (v_89 + 1))) v_97 l_98
    else
    some l_91

def m_stopwatchlaw25_history (f_1 : TField) (picks_2 : List Int) : Option (THistory) :=
  bif decide (0 ≥ (((picks_2).length : Int))) then
    (m_stopwatchlaw25_history_L1 f_1 picks_2 (((((f_1.Clocks.Segments).length : Int)) - 0 : Int).toNat + 1) 0 0 ((([] : List Int)))).bind fun (v_12, l_13) =>
    (m_stopwatchlaw25_history_L2 f_1 picks_2 (((((f_1.Runners).length : Int)) - 0 : Int).toNat + 1) 0 v_12 ((([] : List TChoice)))).bind fun l_29 =>
    some ({ World := (bitK .i64 (BitVec.ofInt 64 0 &&& BitVec.ofInt 64 3)), Offsets := l_13, Choices := l_29 } : THistory)
  else
  (idx picks_2 0).bind fun x_68 =>
  (m_stopwatchlaw25_history_L3 f_1 picks_2 (((((f_1.Clocks.Segments).length : Int)) - 0 : Int).toNat + 1) 0 1 ((([] : List Int)))).bind fun (v_76, l_77) =>
  (m_stopwatchlaw25_history_L4 f_1 picks_2 x_68 (((((f_1.Runners).length : Int)) - 0 : Int).toNat + 1) 0 v_76 ((([] : List TChoice)))).bind fun l_93 =>
  some ({ World := (bitK .i64 (BitVec.ofInt 64 x_68 &&& BitVec.ofInt 64 3)), Offsets := l_77, Choices := l_93 } : THistory)

def m_stopwatchlaw25_RanksInside_L2 (f_1 : TField) (r_13 : THistory) (v_19 : Int) (k_62 : Unit → Option (Bool)) : Nat → Int → Option (Bool)
  | 0, _ => none
  | n_60 + 1, v_59 =>
    bif decide (v_59 < (((f_1.Runners).length : Int))) then
      (m_ranks_Ahead f_1 v_59 v_19).bind fun (r_64, r_65, r_66) =>
      (m_stopwatchref25_InFront f_1 r_13 v_59 v_19).bind fun r_68 =>
      bif (r_66 != 0) || (bif r_64 then ((!r_68) || (!r_65)) else (r_68 && (!r_65))) then some false else
      (m_stopwatchlaw25_RanksInside_L2 f_1 r_13 v_19 k_62 n_60) ((w64 (v_59 + 1)))
    else
    k_62 ()

def m_stopwatchlaw25_RanksInside_J3 (v_19 : Int) (nx_21 : Int → Option (Bool)) (_ : Unit) : Option (Bool) :=
  nx_21 ((w64 (v_19 + 1)))

def m_stopwatchlaw25_RanksInside_L1 (f_1 : TField) (r_13 : THistory) (k_22 : Unit → Option (Bool)) : Nat → Int → Option (Bool)
  | 0, _ => none
  | n_20 + 1, v_19 =>
    bif decide (v_19 < (((f_1.Runners).length : Int))) then
      (idx f_1.Runners v_19).bind fun x_24 =>
      (m_ranks_Of f_1 v_19).bind fun (r_25, r_26) =>
      (m_stopwatchref25_Rank f_1 r_13 v_19).bind fun r_28 =>
      bif (r_26 != 0) || ((r_25.Bib != x_24.Bib) || (bif (r_28 == 0) then ((!r_25.Out) || (bif (decide (r_28 > 0)) then ((decide (r_28 < r_25.Lo)) || ((decide (r_28 > r_25.Hi)) || (bif (r_25.Kind == 1) then ((r_28 != r_25.Lo) || ((r_25.Kind == 3) && (r_28 != 0))) else ((r_25.Kind == 3) && (r_28 != 0))))) else (bif (r_25.Kind == 1) then ((r_28 != r_25.Lo) || ((r_25.Kind == 3) && (r_28 != 0))) else ((r_25.Kind == 3) && (r_28 != 0))))) else (bif (decide (r_28 > 0)) then ((decide (r_28 < r_25.Lo)) || ((decide (r_28 > r_25.Hi)) || (bif (r_25.Kind == 1) then ((r_28 != r_25.Lo) || ((r_25.Kind == 3) && (r_28 != 0))) else ((r_25.Kind == 3) && (r_28 != 0))))) else (bif (r_25.Kind == 1) then ((r_28 != r_25.Lo) || ((r_25.Kind == 3) && (r_28 != 0))) else ((r_25.Kind == 3) && (r_28 != 0)))))) then some false else
      m_stopwatchlaw25_RanksInside_L2 f_1 r_13 v_19 (m_stopwatchlaw25_RanksInside_J3 v_19 (m_stopwatchlaw25_RanksInside_L1 f_1 r_13 k_22 n_20)) (((((f_1.Runners).length : Int)) - 0 : Int).toNat + 1) 0
    else
    k_22 ()

def m_stopwatchlaw25_RanksInside_J4 (_ : Unit) : Option (Bool) :=
  some true

def m_stopwatchlaw25_RanksInside (f_1 : TField) (picks_2 : List Int) : Option (Bool) :=
  (m_stopwatchlaw25_sane).bind fun r_4 =>
  bif !r_4 then some false else
  (m_stopwatchref25_Few f_1).bind fun r_7 =>
  bif !r_7 then some true else
  (m_stopwatchref24_Check f_1).bind fun r_10 =>
  bif r_10 != 0 then some true else
  (m_stopwatchlaw25_history f_1 picks_2).bind fun r_13 =>
  (m_stopwatchref25_Admissible f_1 r_13).bind fun r_15 =>
  bif !r_15 then some true else
  m_stopwatchlaw25_RanksInside_L1 f_1 r_13 m_stopwatchlaw25_RanksInside_J4 (((((f_1.Runners).length : Int)) - 0 : Int).toNat + 1) 0
end Go.Stop
