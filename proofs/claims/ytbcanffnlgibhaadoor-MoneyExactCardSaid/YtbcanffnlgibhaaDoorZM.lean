/- Models of functions, by program (gen.py). No condition. -/
import Derived.Test.YtbcanffnlgibhaaDoorZB7
import Derived.Lib.BitFns
import Derived.Lib.ItoaNum
import Derived.Lib.Repeat
namespace Go.Stop
open Go Go.Abs
set_option linter.unusedVariables false
structure Tmoney_part where
  index : Int
  cents : Int
  rest : Int
  deriving DecidableEq, Inhabited
def eTmoney_part (x : Tmoney_part) : D := .ag [(.i .i64 x.index), (.i .i64 x.cents), (.i .i64 x.rest)]
def M0 (n_1 : Int) : Option (Int) :=
 bif decide (n_1 > 1125899906842624) then some 300 else
 bif decide (n_1 < (-1125899906842624)) then some 300 else
 some 0
def M1 (a_1 : Int) (weights_2 : List Int) (sum_3 : Int) : Option (List Int × Int × Int) :=
 some (weights_2, a_1, sum_3)
def M2 (c_1 : List Int) (c_2 : Int) (c_3 : Int) (k_8 : Unit → Option (List Tmoney_part)) : Nat → Int → Option (List Tmoney_part)
  | 0, _ => none
  | n_6 + 1, v_5 =>
    bif decide (v_5 < (((c_1).length : Int))) then
     (idx c_1 v_5).bind fun x_10 =>
     (nz c_3).bind fun u_11 =>
     (nz c_3).bind fun u_12 =>
     Option.bind (
      (M2 c_1 c_2 c_3 k_8 n_6) ((w64 (v_5 + 1)))
     ) fun l => some (({ index := v_5, cents := (w64 (Int.tdiv (w64 (c_2 * x_10)) c_3)), rest := (Int.tmod (w64 (c_2 * x_10)) c_3) } : Tmoney_part) :: l)
    else
    k_8 ()
def M3 (_ : Unit) : Option (List Tmoney_part) :=
 some []
def M4 (c_1 : List Int) (c_2 : Int) (c_3 : Int) : Option (List Tmoney_part) :=
 M2 c_1 c_2 c_3 M3 (((((c_1).length : Int)) - 0 : Int).toNat + 1) 0
def M5 (x_1 : Int) : Option (Int) :=
  if 0 ≤ x_1 ∧ x_1 ≤ 18446744073709551615 then some (Lib.bitLen x_1.toNat : Int) else none
def M6 (x_1 : Int) : Option (Bool) :=
 some (x_1 != x_1)
def M7 (x_1 : Int) (y_2 : Int) : Option (Int) :=
 (M6 x_1).bind fun r_4 =>
 (M6 y_2).bind fun r_6 =>
 bif r_4 then
  bif r_6 then some 0 else
  some (-1)
 else
 bif r_6 then some 1 else
 bif decide (x_1 < y_2) then some (-1) else
 bif decide (x_1 > y_2) then some 1 else
 some 0
def M8 (vals_1 : List Int) (k_7 : Unit → Option (Int)) : Nat → Int → Option (Int)
  | 0, _ => none
  | n_5 + 1, v_4 =>
    bif decide (v_4 < (((vals_1).length : Int))) then
     (idx vals_1 v_4).bind fun x_9 =>
     bif x_9 != 0 then some x_9 else
     (M8 vals_1 k_7 n_5) ((w64 (v_4 + 1)))
    else
    k_7 ()
def M9 (_ : Unit) : Option (Int) :=
 some 0
def M10 (vals_1 : List Int) : Option (Int) :=
 M8 vals_1 M9 (((((vals_1).length : Int)) - 0 : Int).toNat + 1) 0
def M11 (p_1 : Tmoney_part) (q_2 : Tmoney_part) : Option (Int) :=
 (M7 q_2.rest p_1.rest).bind fun r_4 =>
 (M7 p_1.index q_2.index).bind fun r_6 =>
 (M10 ((([r_4, r_6] : List Int)))).bind fun r_8 =>
 some r_8
def M12 (a_1 : Int) : Nat → Int → (List Tmoney_part) → Option (List Tmoney_part)
  | 0, _, _ => none
  | n_18 + 1, j_16, l_17 =>
    bif decide (j_16 > a_1) then
     (idx l_17 j_16).bind fun x_23 =>
     (idx l_17 (w64 (j_16 - 1))).bind fun x_24 =>
     (M11 x_23 x_24).bind fun r_25 =>
     bif decide (r_25 < 0) then
      (idx l_17 (w64 (j_16 - 1))).bind fun x_28 =>
      (idx l_17 j_16).bind fun x_29 =>
      (idx l_17 j_16).bind fun x_30 =>
      (idx (List.set l_17 (Int.toNat j_16) x_28) (w64 (j_16 - 1))).bind fun x_31 =>
      (M12 a_1 n_18) ((w64 (j_16 - 1))) ((List.set (List.set l_17 (Int.toNat j_16) x_28) (Int.toNat (w64 (j_16 - 1))) x_29))
     else
     some l_17
    else
    some l_17
def M13 (a_1 : Int) (b_2 : Int) : Nat → Int → (List Tmoney_part) → Option (List Tmoney_part)
  | 0, _, _ => none
  | n_9 + 1, i_7, l_8 =>
    bif decide (i_7 < b_2) then
     (M12 a_1 ((i_7 - a_1 : Int).toNat + 1) i_7 l_8).bind fun l_19 =>
     (M13 a_1 b_2 n_9) ((w64 (i_7 + 1))) l_19
    else
    some l_8
def M14 (a_1 : Int) (b_2 : Int) (l_3 : List Tmoney_part) : Option (List Tmoney_part) :=
 (M13 a_1 b_2 ((b_2 - (w64 (a_1 + 1)) : Int).toNat + 1) ((w64 (a_1 + 1))) l_3).bind fun l_10 =>
 some l_10
def M15 (hi_2 : Int) (first_3 : Int) (k_13 : (List Tmoney_part) → Option (List Tmoney_part)) : Nat → Int → (List Tmoney_part) → Option (List Tmoney_part)
  | 0, _, _ => none
  | n_10 + 1, root_8, l_9 =>
    bif decide ((w64 ((w64 (2 * root_8)) + 1)) ≥ hi_2) then k_13 l_9 else
    bif decide ((w64 ((w64 ((w64 (2 * root_8)) + 1)) + 1)) < hi_2) then
     (idx l_9 (w64 (first_3 + (w64 ((w64 (2 * root_8)) + 1))))).bind fun x_16 =>
     (idx l_9 (w64 ((w64 (first_3 + (w64 ((w64 (2 * root_8)) + 1)))) + 1))).bind fun x_17 =>
     (M11 x_16 x_17).bind fun r_18 =>
     bif decide (r_18 < 0) then
      (idx l_9 (w64 (first_3 + root_8))).bind fun x_21 =>
      (idx l_9 (w64 (first_3 + (w64 ((w64 ((w64 (2 * root_8)) + 1)) + 1))))).bind fun x_22 =>
      (M11 x_21 x_22).bind fun r_23 =>
      bif !(decide (r_23 < 0)) then some l_9 else
      (idx l_9 (w64 (first_3 + (w64 ((w64 ((w64 (2 * root_8)) + 1)) + 1))))).bind fun x_26 =>
      (idx l_9 (w64 (first_3 + root_8))).bind fun x_27 =>
      (idx l_9 (w64 (first_3 + root_8))).bind fun x_28 =>
      (idx (List.set l_9 (Int.toNat (w64 (first_3 + root_8))) x_26) (w64 (first_3 + (w64 ((w64 ((w64 (2 * root_8)) + 1)) + 1))))).bind fun x_29 =>
      (M15 hi_2 first_3 k_13 n_10) ((w64 ((w64 ((w64 (2 * root_8)) + 1)) + 1))) ((List.set (List.set l_9 (Int.toNat (w64 (first_3 + root_8))) x_26) (Int.toNat (w64 (first_3 + (w64 ((w64 ((w64 (2 * root_8)) + 1)) + 1))))) x_27))
     else
     (idx l_9 (w64 (first_3 + root_8))).bind fun x_30 =>
     (idx l_9 (w64 (first_3 + (w64 ((w64 (2 * root_8)) + 1))))).bind fun x_31 =>
     (M11 x_30 x_31).bind fun r_32 =>
     bif !(decide (r_32 < 0)) then some l_9 else
     (idx l_9 (w64 (first_3 + (w64 ((w64 (2 * root_8)) + 1))))).bind fun x_35 =>
     (idx l_9 (w64 (first_3 + root_8))).bind fun x_36 =>
     (idx l_9 (w64 (first_3 + root_8))).bind fun x_37 =>
     (idx (List.set l_9 (Int.toNat (w64 (first_3 + root_8))) x_35) (w64 (first_3 + (w64 ((w64 (2 * root_8)) + 1))))).bind fun x_38 =>
     (M15 hi_2 first_3 k_13 n_10) ((w64 ((w64 (2 * root_8)) + 1))) ((List.set (List.set l_9 (Int.toNat (w64 (first_3 + root_8))) x_35) (Int.toNat (w64 (first_3 + (w64 ((w64 (2 * root_8)) + 1))))) x_36))
    else
    (idx l_9 (w64 (first_3 + root_8))).bind fun x_39 =>
    (idx l_9 (w64 (first_3 + (w64 ((w64 (2 * root_8)) + 1))))).bind fun x_40 =>
    (M11 x_39 x_40).bind fun r_41 =>
    bif !(decide (r_41 < 0)) then some l_9 else
    (idx l_9 (w64 (first_3 + (w64 ((w64 (2 * root_8)) + 1))))).bind fun x_44 =>
    (idx l_9 (w64 (first_3 + root_8))).bind fun x_45 =>
    (idx l_9 (w64 (first_3 + root_8))).bind fun x_46 =>
    (idx (List.set l_9 (Int.toNat (w64 (first_3 + root_8))) x_44) (w64 (first_3 + (w64 ((w64 (2 * root_8)) + 1))))).bind fun x_47 =>
    (M15 hi_2 first_3 k_13 n_10) ((w64 ((w64 (2 * root_8)) + 1))) ((List.set (List.set l_9 (Int.toNat (w64 (first_3 + root_8))) x_44) (Int.toNat (w64 (first_3 + (w64 ((w64 (2 * root_8)) + 1))))) x_45))
def M16 (l_11 : List Tmoney_part) : Option (List Tmoney_part) :=
 some l_11
def M17 (lo_1 : Int) (hi_2 : Int) (first_3 : Int) (l_4 : List Tmoney_part) : Option (List Tmoney_part) :=
 M15 hi_2 first_3 M16 (List.length l_4 + 1) lo_1 l_4
def M18 (a_1 : Int) (b_2 : Int) : Nat → Int → (List Tmoney_part) → Option (List Tmoney_part)
  | 0, _, _ => none
  | n_9 + 1, i_7, l_8 =>
    bif decide (i_7 ≥ 0) then
     (M17 i_7 ((w64 (b_2 - a_1))) a_1 l_8).bind fun l_14 =>
     (lenIs l_14 l_8).bind fun _ =>
     (M18 a_1 b_2 n_9) ((w64 (i_7 - 1))) l_14
    else
    some l_8
def M19 (a_1 : Int) : Nat → Int → (List Tmoney_part) → Option (List Tmoney_part)
  | 0, _, _ => none
  | n_22 + 1, i_20, l_21 =>
    bif decide (i_20 ≥ 0) then
     (idx l_21 (w64 (a_1 + i_20))).bind fun x_27 =>
     (idx l_21 a_1).bind fun x_28 =>
     (idx l_21 a_1).bind fun x_29 =>
     (idx (List.set l_21 (Int.toNat a_1) x_27) (w64 (a_1 + i_20))).bind fun x_30 =>
     (M17 0 i_20 a_1 ((List.set (List.set l_21 (Int.toNat a_1) x_27) (Int.toNat (w64 (a_1 + i_20))) x_28))).bind fun l_31 =>
     (lenIs l_31 (List.set (List.set l_21 (Int.toNat a_1) x_27) (Int.toNat (w64 (a_1 + i_20))) x_28)).bind fun _ =>
     (M19 a_1 n_22) ((w64 (i_20 - 1))) l_31
    else
    some l_21
def M20 (a_1 : Int) (b_2 : Int) (l_3 : List Tmoney_part) : Option (List Tmoney_part) :=
 (M18 a_1 b_2 (((w64 (Int.tdiv (w64 ((w64 (b_2 - a_1)) - 1)) 2)) + 1 - 0 : Int).toNat + 1) ((w64 (Int.tdiv (w64 ((w64 (b_2 - a_1)) - 1)) 2))) l_3).bind fun l_10 =>
 (M19 a_1 (((w64 ((w64 (b_2 - a_1)) - 1)) + 1 - 0 : Int).toNat + 1) ((w64 ((w64 (b_2 - a_1)) - 1))) l_10).bind fun l_23 =>
 some l_23
def M21 (data_1 : List Tmoney_part) (a_2 : Int) (b_3 : Int) (v_4 : Int) : Option (Int × Int × Int) :=
 (idx data_1 b_3).bind fun x_8 =>
 (idx data_1 a_2).bind fun x_9 =>
 (M11 x_8 x_9).bind fun r_10 =>
 bif decide (r_10 < 0) then some (b_3, a_2, (w64 (v_4 + 1))) else
 some (a_2, b_3, v_4)
def M22 (data_1 : List Tmoney_part) (a_2 : Int) (b_3 : Int) (c_4 : Int) (v_5 : Int) : Option (Int × Int) :=
 (M21 data_1 a_2 b_3 v_5).bind fun (r_8, r_9, b_10) =>
 (M21 data_1 r_9 c_4 b_10).bind fun (r_12, r_13, b_14) =>
 (M21 data_1 r_8 r_12 b_14).bind fun (r_16, r_17, b_18) =>
 some (r_17, b_18)
def M23 (data_1 : List Tmoney_part) (a_2 : Int) (v_3 : Int) : Option (Int × Int) :=
 (M22 data_1 ((w64 (a_2 - 1))) a_2 ((w64 (a_2 + 1))) v_3).bind fun (r_6, b_7) =>
 some (r_6, b_7)
def M24 (data_1 : List Tmoney_part) (a_2 : Int) (b_3 : Int) : Option (Int × Int) :=
 bif decide ((w64 (b_3 - a_2)) ≥ 8) then
  bif decide ((w64 (b_3 - a_2)) ≥ 50) then
   (M23 data_1 ((w64 (a_2 + (w64 ((w64 (Int.tdiv (w64 (b_3 - a_2)) 4)) * 1))))) 0).bind fun (r_8, b_9) =>
   (M23 data_1 ((w64 (a_2 + (w64 ((w64 (Int.tdiv (w64 (b_3 - a_2)) 4)) * 2))))) b_9).bind fun (r_11, b_12) =>
   (M23 data_1 ((w64 (a_2 + (w64 ((w64 (Int.tdiv (w64 (b_3 - a_2)) 4)) * 3))))) b_12).bind fun (r_14, b_15) =>
   (M22 data_1 r_8 r_11 r_14 b_15).bind fun (r_17, b_18) =>
   bif b_18 == 0 then some (r_17, 1) else
   bif b_18 == 12 then some (r_17, 2) else
   some (r_17, 0)
  else
  (M22 data_1 ((w64 (a_2 + (w64 ((w64 (Int.tdiv (w64 (b_3 - a_2)) 4)) * 1))))) ((w64 (a_2 + (w64 ((w64 (Int.tdiv (w64 (b_3 - a_2)) 4)) * 2))))) ((w64 (a_2 + (w64 ((w64 (Int.tdiv (w64 (b_3 - a_2)) 4)) * 3))))) 0).bind fun (r_22, b_23) =>
  bif b_23 == 0 then some (r_22, 1) else
  bif b_23 == 12 then some (r_22, 2) else
  some (r_22, 0)
 else
 some ((w64 (a_2 + (w64 ((w64 (Int.tdiv (w64 (b_3 - a_2)) 4)) * 2)))), 1)
def M25 : Nat → Int → Int → (List Tmoney_part) → Option (List Tmoney_part)
  | 0, _, _, _ => none
  | n_11 + 1, i_8, j_9, l_10 =>
    bif decide (i_8 < j_9) then
     (idx l_10 j_9).bind fun x_16 =>
     (idx l_10 i_8).bind fun x_17 =>
     (idx l_10 i_8).bind fun x_18 =>
     (idx (List.set l_10 (Int.toNat i_8) x_16) j_9).bind fun x_19 =>
     (M25 n_11) ((w64 (i_8 + 1))) ((w64 (j_9 - 1))) ((List.set (List.set l_10 (Int.toNat i_8) x_16) (Int.toNat j_9) x_17))
    else
    some l_10
def M26 (a_1 : Int) (b_2 : Int) (l_3 : List Tmoney_part) : Option (List Tmoney_part) :=
 (M25 (((w64 (b_2 - 1)) - a_1 : Int).toNat + 1) a_1 ((w64 (b_2 - 1))) l_3).bind fun l_12 =>
 some l_12
def M27 (j_10 : Int) (nx_14 : Int → Int → (List Tmoney_part) → Option (Bool × List Tmoney_part)) (i_17 : Int) (l_18 : List Tmoney_part) : Option (Bool × List Tmoney_part) :=
 nx_14 i_17 ((w64 (j_10 + 1))) l_18
def M28 (b_2 : Int) (l_11 : List Tmoney_part) : Nat → Int → Option (Int)
  | 0, _ => none
  | n_21 + 1, i_20 =>
    bif decide (i_20 < b_2) then
     (idx l_11 i_20).bind fun x_26 =>
     (idx l_11 (w64 (i_20 - 1))).bind fun x_27 =>
     (M11 x_26 x_27).bind fun r_28 =>
     bif !(decide (r_28 < 0)) then (M28 b_2 l_11 n_21) ((w64 (i_20 + 1))) else
     some i_20
    else
    some i_20
def M29 : Nat → Int → (List Tmoney_part) → Option (List Tmoney_part)
  | 0, _, _ => none
  | n_43 + 1, j_41, l_42 =>
    bif decide (j_41 ≥ 1) then
     (idx l_42 j_41).bind fun x_48 =>
     (idx l_42 (w64 (j_41 - 1))).bind fun x_49 =>
     (M11 x_48 x_49).bind fun r_50 =>
     bif !(decide (r_50 < 0)) then some l_42 else
     (idx l_42 (w64 (j_41 - 1))).bind fun x_53 =>
     (idx l_42 j_41).bind fun x_54 =>
     (idx l_42 j_41).bind fun x_55 =>
     (idx (List.set l_42 (Int.toNat j_41) x_53) (w64 (j_41 - 1))).bind fun x_56 =>
     (M29 n_43) ((w64 (j_41 - 1))) ((List.set (List.set l_42 (Int.toNat j_41) x_53) (Int.toNat (w64 (j_41 - 1))) x_54))
    else
    some l_42
def M30 (b_2 : Int) : Nat → Int → (List Tmoney_part) → Option (List Tmoney_part)
  | 0, _, _ => none
  | n_63 + 1, j_61, l_62 =>
    bif decide (j_61 < b_2) then
     (idx l_62 j_61).bind fun x_68 =>
     (idx l_62 (w64 (j_61 - 1))).bind fun x_69 =>
     (M11 x_68 x_69).bind fun r_70 =>
     bif !(decide (r_70 < 0)) then some l_62 else
     (idx l_62 (w64 (j_61 - 1))).bind fun x_73 =>
     (idx l_62 j_61).bind fun x_74 =>
     (idx l_62 j_61).bind fun x_75 =>
     (idx (List.set l_62 (Int.toNat j_61) x_73) (w64 (j_61 - 1))).bind fun x_76 =>
     (M30 b_2 n_63) ((w64 (j_61 + 1))) ((List.set (List.set l_62 (Int.toNat j_61) x_73) (Int.toNat (w64 (j_61 - 1))) x_74))
    else
    some l_62
def M31 (b_2 : Int) : Nat → Int → (List Tmoney_part) → Option (List Tmoney_part)
  | 0, _, _ => none
  | n_83 + 1, j_81, l_82 =>
    bif decide (j_81 < b_2) then
     (idx l_82 j_81).bind fun x_88 =>
     (idx l_82 (w64 (j_81 - 1))).bind fun x_89 =>
     (M11 x_88 x_89).bind fun r_90 =>
     bif !(decide (r_90 < 0)) then some l_82 else
     (idx l_82 (w64 (j_81 - 1))).bind fun x_93 =>
     (idx l_82 j_81).bind fun x_94 =>
     (idx l_82 j_81).bind fun x_95 =>
     (idx (List.set l_82 (Int.toNat j_81) x_93) (w64 (j_81 - 1))).bind fun x_96 =>
     (M31 b_2 n_83) ((w64 (j_81 + 1))) ((List.set (List.set l_82 (Int.toNat j_81) x_93) (Int.toNat (w64 (j_81 - 1))) x_94))
    else
    some l_82
def M32 (a_1 : Int) (b_2 : Int) (k_15 : (List Tmoney_part) → Option (Bool × List Tmoney_part)) : Nat → Int → Int → (List Tmoney_part) → Option (Bool × List Tmoney_part)
  | 0, _, _, _ => none
  | n_12 + 1, i_9, j_10, l_11 =>
    bif decide (j_10 < 5) then
     (M28 b_2 l_11 ((b_2 - i_9 : Int).toNat + 1) i_9).bind fun i_22 =>
     bif i_22 == b_2 then some (true, l_11) else
     bif decide ((w64 (b_2 - a_1)) < 50) then some (false, l_11) else
     (idx l_11 (w64 (i_22 - 1))).bind fun x_34 =>
     (idx l_11 i_22).bind fun x_35 =>
     (idx l_11 i_22).bind fun x_36 =>
     (idx (List.set l_11 (Int.toNat i_22) x_34) (w64 (i_22 - 1))).bind fun x_37 =>
     bif decide ((w64 (i_22 - a_1)) ≥ 2) then
      (M29 (((w64 (i_22 - 1)) + 1 - 1 : Int).toNat + 1) ((w64 (i_22 - 1))) ((List.set (List.set l_11 (Int.toNat i_22) x_34) (Int.toNat (w64 (i_22 - 1))) x_35))).bind fun l_44 =>
      bif decide ((w64 (b_2 - i_22)) ≥ 2) then
       (M30 b_2 ((b_2 - (w64 (i_22 + 1)) : Int).toNat + 1) ((w64 (i_22 + 1))) l_44).bind fun l_64 =>
       M27 j_10 (M32 a_1 b_2 k_15 n_12) i_22 l_64
      else
      M27 j_10 (M32 a_1 b_2 k_15 n_12) i_22 l_44
     else
     bif decide ((w64 (b_2 - i_22)) ≥ 2) then
      (M31 b_2 ((b_2 - (w64 (i_22 + 1)) : Int).toNat + 1) ((w64 (i_22 + 1))) ((List.set (List.set l_11 (Int.toNat i_22) x_34) (Int.toNat (w64 (i_22 - 1))) x_35))).bind fun l_84 =>
      M27 j_10 (M32 a_1 b_2 k_15 n_12) i_22 l_84
     else
     M27 j_10 (M32 a_1 b_2 k_15 n_12) i_22 ((List.set (List.set l_11 (Int.toNat i_22) x_34) (Int.toNat (w64 (i_22 - 1))) x_35))
    else
    k_15 l_11
def M33 (l_13 : List Tmoney_part) : Option (Bool × List Tmoney_part) :=
 some (false, l_13)
def M34 (a_1 : Int) (b_2 : Int) (l_3 : List Tmoney_part) : Option (Bool × List Tmoney_part) :=
 M32 a_1 b_2 M33 ((5 - 0 : Int).toNat + 1) ((w64 (a_1 + 1))) 0 l_3
def M35 (a_1 : Int) (j_15 : Int) (l_16 : List Tmoney_part) : Nat → Int → Option (Int)
  | 0, _ => none
  | n_24 + 1, i_23 =>
    bif decide (i_23 ≤ j_15) then
     (idx l_16 a_1).bind fun x_29 =>
     (idx l_16 i_23).bind fun x_30 =>
     (M11 x_29 x_30).bind fun r_31 =>
     bif !(decide (r_31 < 0)) then (M35 a_1 j_15 l_16 n_24) ((w64 (i_23 + 1))) else
     some i_23
    else
    some i_23
def M36 (a_1 : Int) (l_16 : List Tmoney_part) (i_25 : Int) : Nat → Int → Option (Int)
  | 0, _ => none
  | n_37 + 1, j_36 =>
    bif decide (i_25 ≤ j_36) then
     (idx l_16 a_1).bind fun x_42 =>
     (idx l_16 j_36).bind fun x_43 =>
     (M11 x_42 x_43).bind fun r_44 =>
     bif decide (r_44 < 0) then (M36 a_1 l_16 i_25 n_37) ((w64 (j_36 - 1))) else
     some j_36
    else
    some j_36
def M37 (a_1 : Int) : Nat → Int → Int → (List Tmoney_part) → Option (Int × List Tmoney_part)
  | 0, _, _, _ => none
  | n_17 + 1, i_14, j_15, l_16 =>
    (M35 a_1 j_15 l_16 ((j_15 + 1 - i_14 : Int).toNat + 1) i_14).bind fun i_25 =>
    (M36 a_1 l_16 i_25 ((j_15 + 1 - i_25 : Int).toNat + 1) j_15).bind fun j_38 =>
    bif decide (i_25 > j_38) then some (i_25, l_16) else
    (idx l_16 j_38).bind fun x_49 =>
    (idx l_16 i_25).bind fun x_50 =>
    (idx l_16 i_25).bind fun x_51 =>
    (idx (List.set l_16 (Int.toNat i_25) x_49) j_38).bind fun x_52 =>
    (M37 a_1 n_17) ((w64 (i_25 + 1))) ((w64 (j_38 - 1))) ((List.set (List.set l_16 (Int.toNat i_25) x_49) (Int.toNat j_38) x_50))
def M38 (a_1 : Int) (b_2 : Int) (pivot_3 : Int) (l_4 : List Tmoney_part) : Option (Int × List Tmoney_part) :=
 (idx l_4 pivot_3).bind fun x_7 =>
 (idx l_4 a_1).bind fun x_8 =>
 (idx l_4 a_1).bind fun x_9 =>
 (idx (List.set l_4 (Int.toNat a_1) x_7) pivot_3).bind fun x_10 =>
 (M37 a_1 (List.length ((List.set (List.set l_4 (Int.toNat a_1) x_7) (Int.toNat pivot_3) x_8)) + 1) ((w64 (a_1 + 1))) ((w64 (b_2 - 1))) ((List.set (List.set l_4 (Int.toNat a_1) x_7) (Int.toNat pivot_3) x_8))).bind fun (i_18, l_19) =>
 some (i_18, l_19)
def M39 (a_1 : Int) (b_2 : Int) (pivot_3 : Int) (l_4 : List Tmoney_part) (x_8 : Tmoney_part) (x_9 : Tmoney_part) : Nat → Int → Option (Int)
  | 0, _ => none
  | n_14 + 1, i_13 =>
    bif decide (i_13 ≤ (w64 (b_2 - 1))) then
     (idx (List.set (List.set l_4 (Int.toNat a_1) x_8) (Int.toNat pivot_3) x_9) i_13).bind fun x_19 =>
     (idx (List.set (List.set l_4 (Int.toNat a_1) x_8) (Int.toNat pivot_3) x_9) a_1).bind fun x_20 =>
     (M11 x_19 x_20).bind fun r_21 =>
     bif decide (r_21 < 0) then (M39 a_1 b_2 pivot_3 l_4 x_8 x_9 n_14) ((w64 (i_13 + 1))) else
     some i_13
    else
    some i_13
def M40 (a_1 : Int) (pivot_3 : Int) (l_4 : List Tmoney_part) (x_8 : Tmoney_part) (x_9 : Tmoney_part) (i_15 : Int) : Nat → Int → Option (Int)
  | 0, _ => none
  | n_27 + 1, j_26 =>
    bif decide (i_15 ≤ j_26) then
     (idx (List.set (List.set l_4 (Int.toNat a_1) x_8) (Int.toNat pivot_3) x_9) j_26).bind fun x_32 =>
     (idx (List.set (List.set l_4 (Int.toNat a_1) x_8) (Int.toNat pivot_3) x_9) a_1).bind fun x_33 =>
     (M11 x_32 x_33).bind fun r_34 =>
     bif !(decide (r_34 < 0)) then (M40 a_1 pivot_3 l_4 x_8 x_9 i_15 n_27) ((w64 (j_26 - 1))) else
     some j_26
    else
    some j_26
def M41 (a_1 : Int) (j_51 : Int) (l_52 : List Tmoney_part) : Nat → Int → Option (Int)
  | 0, _ => none
  | n_60 + 1, i_59 =>
    bif decide (i_59 ≤ j_51) then
     (idx l_52 i_59).bind fun x_65 =>
     (idx l_52 a_1).bind fun x_66 =>
     (M11 x_65 x_66).bind fun r_67 =>
     bif decide (r_67 < 0) then (M41 a_1 j_51 l_52 n_60) ((w64 (i_59 + 1))) else
     some i_59
    else
    some i_59
def M42 (a_1 : Int) (l_52 : List Tmoney_part) (i_61 : Int) : Nat → Int → Option (Int)
  | 0, _ => none
  | n_73 + 1, j_72 =>
    bif decide (i_61 ≤ j_72) then
     (idx l_52 j_72).bind fun x_78 =>
     (idx l_52 a_1).bind fun x_79 =>
     (M11 x_78 x_79).bind fun r_80 =>
     bif !(decide (r_80 < 0)) then (M42 a_1 l_52 i_61 n_73) ((w64 (j_72 - 1))) else
     some j_72
    else
    some j_72
def M43 (a_1 : Int) : Nat → Int → Int → (List Tmoney_part) → Option (Int × List Tmoney_part)
  | 0, _, _, _ => none
  | n_53 + 1, i_50, j_51, l_52 =>
    (M41 a_1 j_51 l_52 ((j_51 + 1 - i_50 : Int).toNat + 1) i_50).bind fun i_61 =>
    (M42 a_1 l_52 i_61 ((j_51 + 1 - i_61 : Int).toNat + 1) j_51).bind fun j_74 =>
    bif decide (i_61 > j_74) then some (j_74, l_52) else
    (idx l_52 j_74).bind fun x_85 =>
    (idx l_52 i_61).bind fun x_86 =>
    (idx l_52 i_61).bind fun x_87 =>
    (idx (List.set l_52 (Int.toNat i_61) x_85) j_74).bind fun x_88 =>
    (M43 a_1 n_53) ((w64 (i_61 + 1))) ((w64 (j_74 - 1))) ((List.set (List.set l_52 (Int.toNat i_61) x_85) (Int.toNat j_74) x_86))
def M44 (a_1 : Int) (b_2 : Int) (pivot_3 : Int) (l_4 : List Tmoney_part) : Option (Int × Bool × List Tmoney_part) :=
 (idx l_4 pivot_3).bind fun x_8 =>
 (idx l_4 a_1).bind fun x_9 =>
 (idx l_4 a_1).bind fun x_10 =>
 (idx (List.set l_4 (Int.toNat a_1) x_8) pivot_3).bind fun x_11 =>
 (M39 a_1 b_2 pivot_3 l_4 x_8 x_9 (((w64 (b_2 - 1)) + 1 - (w64 (a_1 + 1)) : Int).toNat + 1) ((w64 (a_1 + 1)))).bind fun i_15 =>
 (M40 a_1 pivot_3 l_4 x_8 x_9 i_15 (((w64 (b_2 - 1)) + 1 - i_15 : Int).toNat + 1) ((w64 (b_2 - 1)))).bind fun j_28 =>
 bif decide (i_15 > j_28) then
  (idx (List.set (List.set l_4 (Int.toNat a_1) x_8) (Int.toNat pivot_3) x_9) a_1).bind fun x_39 =>
  (idx (List.set (List.set l_4 (Int.toNat a_1) x_8) (Int.toNat pivot_3) x_9) j_28).bind fun x_40 =>
  (idx (List.set (List.set l_4 (Int.toNat a_1) x_8) (Int.toNat pivot_3) x_9) j_28).bind fun x_41 =>
  (idx (List.set (List.set (List.set l_4 (Int.toNat a_1) x_8) (Int.toNat pivot_3) x_9) (Int.toNat j_28) x_39) a_1).bind fun x_42 =>
  some (j_28, true, (List.set (List.set (List.set (List.set l_4 (Int.toNat a_1) x_8) (Int.toNat pivot_3) x_9) (Int.toNat j_28) x_39) (Int.toNat a_1) x_40))
 else
 (idx (List.set (List.set l_4 (Int.toNat a_1) x_8) (Int.toNat pivot_3) x_9) j_28).bind fun x_43 =>
 (idx (List.set (List.set l_4 (Int.toNat a_1) x_8) (Int.toNat pivot_3) x_9) i_15).bind fun x_44 =>
 (idx (List.set (List.set l_4 (Int.toNat a_1) x_8) (Int.toNat pivot_3) x_9) i_15).bind fun x_45 =>
 (idx (List.set (List.set (List.set l_4 (Int.toNat a_1) x_8) (Int.toNat pivot_3) x_9) (Int.toNat i_15) x_43) j_28).bind fun x_46 =>
 (M43 a_1 (List.length ((List.set (List.set (List.set (List.set l_4 (Int.toNat a_1) x_8) (Int.toNat pivot_3) x_9) (Int.toNat i_15) x_43) (Int.toNat j_28) x_44)) + 1) ((w64 (i_15 + 1))) ((w64 (j_28 - 1))) ((List.set (List.set (List.set (List.set l_4 (Int.toNat a_1) x_8) (Int.toNat pivot_3) x_9) (Int.toNat i_15) x_43) (Int.toNat j_28) x_44))).bind fun (j_54, l_55) =>
 (idx l_55 a_1).bind fun x_90 =>
 (idx l_55 j_54).bind fun x_91 =>
 (idx l_55 j_54).bind fun x_92 =>
 (idx (List.set l_55 (Int.toNat j_54) x_90) a_1).bind fun x_93 =>
 some (j_54, false, (List.set (List.set l_55 (Int.toNat j_54) x_90) (Int.toNat a_1) x_91))
def M45 (length_1 : Int) : Option (Int) :=
 (M5 (IntKind.wrap .u64 length_1)).bind fun r_3 =>
 (nn r_3).bind fun u_5 =>
 some (shlK .u64 1 r_3)
def M46 (v_1 : Int) : Option (Int × Int) :=
 some ((bitK .u64 (BitVec.ofInt 64 (bitK .u64 (BitVec.ofInt 64 (bitK .u64 (BitVec.ofInt 64 v_1 ^^^ BitVec.ofInt 64 (shlK .u64 v_1 13))) ^^^ BitVec.ofInt 64 (shrK .u64 (bitK .u64 (BitVec.ofInt 64 v_1 ^^^ BitVec.ofInt 64 (shlK .u64 v_1 13))) 7))) ^^^ BitVec.ofInt 64 (shlK .u64 (bitK .u64 (BitVec.ofInt 64 (bitK .u64 (BitVec.ofInt 64 v_1 ^^^ BitVec.ofInt 64 (shlK .u64 v_1 13))) ^^^ BitVec.ofInt 64 (shrK .u64 (bitK .u64 (BitVec.ofInt 64 v_1 ^^^ BitVec.ofInt 64 (shlK .u64 v_1 13))) 7))) 17))), (bitK .u64 (BitVec.ofInt 64 (bitK .u64 (BitVec.ofInt 64 (bitK .u64 (BitVec.ofInt 64 v_1 ^^^ BitVec.ofInt 64 (shlK .u64 v_1 13))) ^^^ BitVec.ofInt 64 (shrK .u64 (bitK .u64 (BitVec.ofInt 64 v_1 ^^^ BitVec.ofInt 64 (shlK .u64 v_1 13))) 7))) ^^^ BitVec.ofInt 64 (shlK .u64 (bitK .u64 (BitVec.ofInt 64 (bitK .u64 (BitVec.ofInt 64 v_1 ^^^ BitVec.ofInt 64 (shlK .u64 v_1 13))) ^^^ BitVec.ofInt 64 (shrK .u64 (bitK .u64 (BitVec.ofInt 64 v_1 ^^^ BitVec.ofInt 64 (shlK .u64 v_1 13))) 7))) 17))))
def M47 (a_1 : Int) (b_2 : Int) (r_6 : Int) : Nat → Int → (List Tmoney_part) → Int → Option (List Tmoney_part)
  | 0, _, _, _ => none
  | n_14 + 1, idx_11, l_12, v_13 =>
    bif decide (idx_11 ≤ (w64 ((w64 (a_1 + (w64 ((w64 (Int.tdiv (w64 (b_2 - a_1)) 4)) * 2)))) + 1))) then
     (M46 v_13).bind fun (r_19, b_20) =>
     bif decide ((w64 (bitK .u64 (BitVec.ofInt 64 r_19 &&& BitVec.ofInt 64 (IntKind.wrap .u64 (r_6 - 1))))) ≥ (w64 (b_2 - a_1))) then
      (idx l_12 (w64 (a_1 + (w64 ((w64 (bitK .u64 (BitVec.ofInt 64 r_19 &&& BitVec.ofInt 64 (IntKind.wrap .u64 (r_6 - 1))))) - (w64 (b_2 - a_1))))))).bind fun x_23 =>
      (idx l_12 idx_11).bind fun x_24 =>
      (idx l_12 idx_11).bind fun x_25 =>
      (idx (List.set l_12 (Int.toNat idx_11) x_23) (w64 (a_1 + (w64 ((w64 (bitK .u64 (BitVec.ofInt 64 r_19 &&& BitVec.ofInt 64 (IntKind.wrap .u64 (r_6 - 1))))) - (w64 (b_2 - a_1))))))).bind fun x_26 =>
      (M47 a_1 b_2 r_6 n_14) ((w64 (idx_11 + 1))) ((List.set (List.set l_12 (Int.toNat idx_11) x_23) (Int.toNat (w64 (a_1 + (w64 ((w64 (bitK .u64 (BitVec.ofInt 64 r_19 &&& BitVec.ofInt 64 (IntKind.wrap .u64 (r_6 - 1))))) - (w64 (b_2 - a_1))))))) x_24)) b_20
     else
     (idx l_12 (w64 (a_1 + (w64 (bitK .u64 (BitVec.ofInt 64 r_19 &&& BitVec.ofInt 64 (IntKind.wrap .u64 (r_6 - 1)))))))).bind fun x_27 =>
     (idx l_12 idx_11).bind fun x_28 =>
     (idx l_12 idx_11).bind fun x_29 =>
     (idx (List.set l_12 (Int.toNat idx_11) x_27) (w64 (a_1 + (w64 (bitK .u64 (BitVec.ofInt 64 r_19 &&& BitVec.ofInt 64 (IntKind.wrap .u64 (r_6 - 1)))))))).bind fun x_30 =>
     (M47 a_1 b_2 r_6 n_14) ((w64 (idx_11 + 1))) ((List.set (List.set l_12 (Int.toNat idx_11) x_27) (Int.toNat (w64 (a_1 + (w64 (bitK .u64 (BitVec.ofInt 64 r_19 &&& BitVec.ofInt 64 (IntKind.wrap .u64 (r_6 - 1)))))))) x_28)) b_20
    else
    some l_12
def M48 (a_1 : Int) (b_2 : Int) (l_3 : List Tmoney_part) : Option (List Tmoney_part) :=
 bif decide ((w64 (b_2 - a_1)) ≥ 8) then
  (M45 ((w64 (b_2 - a_1)))).bind fun r_6 =>
  (M47 a_1 b_2 r_6 (((w64 ((w64 (a_1 + (w64 ((w64 (Int.tdiv (w64 (b_2 - a_1)) 4)) * 2)))) + 1)) + 1 - (w64 ((w64 (a_1 + (w64 ((w64 (Int.tdiv (w64 (b_2 - a_1)) 4)) * 2)))) - 1)) : Int).toNat + 1) ((w64 ((w64 (a_1 + (w64 ((w64 (Int.tdiv (w64 (b_2 - a_1)) 4)) * 2)))) - 1))) l_3 ((IntKind.wrap .u64 (w64 (b_2 - a_1))))).bind fun l_15 =>
  some l_15
 else
 some l_3
def M49 (a_17 : Int) (b_18 : Int) (wasBalanced_20 : Bool) (wasPartitioned_21 : Bool) (nx_24 : Int → Int → Int → Bool → Bool → (List Tmoney_part) → Option (List Tmoney_part)) (limit_34 : Int) (pivot_44 : Int) (rc_9007 : Int → Int → Int → (List Tmoney_part) → Option (List Tmoney_part)) (l_55 : List Tmoney_part) : Option (List Tmoney_part) :=
 Option.bind (
  bif decide (a_17 > 0) then
   (idx l_55 (w64 (a_17 - 1))).bind fun x_59 =>
   (idx l_55 pivot_44).bind fun x_60 =>
   (M11 x_59 x_60).bind fun r_61 =>
   some (!(decide (r_61 < 0)))
  else
  some false
 ) fun v_56 =>
 bif v_56 then
  (M38 a_17 b_18 pivot_44 l_55).bind fun (r_64, l_65) =>
  (lenIs l_65 l_55).bind fun _ =>
  nx_24 r_64 b_18 limit_34 wasBalanced_20 wasPartitioned_21 l_65
 else
 (M44 a_17 b_18 pivot_44 l_55).bind fun (r_68, r_69, l_70) =>
 (lenIs l_70 l_55).bind fun _ =>
 bif decide ((w64 (r_68 - a_17)) < (w64 (b_18 - r_68))) then
  (rc_9007 a_17 r_68 limit_34 l_70).bind fun l_74 =>
  (lenIs l_74 l_70).bind fun _ =>
  nx_24 ((w64 (r_68 + 1))) b_18 limit_34 ((decide ((w64 (r_68 - a_17)) ≥ (w64 (Int.tdiv (w64 (b_18 - a_17)) 8))))) r_69 l_74
 else
 (rc_9007 ((w64 (r_68 + 1))) b_18 limit_34 l_70).bind fun l_77 =>
 (lenIs l_77 l_70).bind fun _ =>
 nx_24 a_17 r_68 limit_34 ((decide ((w64 (b_18 - r_68)) ≥ (w64 (Int.tdiv (w64 (b_18 - a_17)) 8))))) r_69 l_77
def M50 (rc_9007 : Int → Int → Int → (List Tmoney_part) → Option (List Tmoney_part)) : Nat → Int → Int → Int → Bool → Bool → (List Tmoney_part) → Option (List Tmoney_part)
  | 0, _, _, _, _, _, _ => none
  | n_23 + 1, a_17, b_18, limit_19, wasBalanced_20, wasPartitioned_21, l_22 =>
    bif decide ((w64 (b_18 - a_17)) ≤ 12) then
     (M14 a_17 b_18 l_22).bind fun l_27 =>
     (lenIs l_27 l_22).bind fun _ =>
     some l_27
    else
    bif limit_19 == 0 then
     (M20 a_17 b_18 l_22).bind fun l_31 =>
     (lenIs l_31 l_22).bind fun _ =>
     some l_31
    else
    Option.bind (
     bif !wasBalanced_20 then
      (M48 a_17 b_18 l_22).bind fun l_38 =>
      (lenIs l_38 l_22).bind fun _ =>
      some ((w64 (limit_19 - 1)), l_38)
     else
     some (limit_19, l_22)
    ) fun (limit_34, l_35) =>
    (M24 l_35 a_17 b_18).bind fun (r_41, r_42) =>
    Option.bind (
     bif r_42 == 2 then
      (M26 a_17 b_18 l_35).bind fun l_49 =>
      (lenIs l_49 l_35).bind fun _ =>
      some ((w64 ((w64 (b_18 - 1)) - (w64 (r_41 - a_17)))), 1, l_49)
     else
     some (r_41, r_42, l_35)
    ) fun (pivot_44, hint_45, l_46) =>
    bif wasBalanced_20 && (wasPartitioned_21 && (hint_45 == 1)) then
     (M34 a_17 b_18 l_46).bind fun (r_81, l_82) =>
     (lenIs l_82 l_46).bind fun _ =>
     bif r_81 then some l_82 else
     M49 a_17 b_18 wasBalanced_20 wasPartitioned_21 (M50 rc_9007 n_23) limit_34 pivot_44 rc_9007 l_82
    else
    M49 a_17 b_18 wasBalanced_20 wasPartitioned_21 (M50 rc_9007 n_23) limit_34 pivot_44 rc_9007 l_46
def M51 (rc_9007 : Int → Int → Int → (List Tmoney_part) → Option (List Tmoney_part)) (a_1 : Int) (b_2 : Int) (limit_3 : Int) (l_4 : List Tmoney_part) : Option (List Tmoney_part) :=
 M50 rc_9007 (List.length l_4 + 1) a_1 b_2 limit_3 true true l_4
def M52 : Nat → Int → Int → Int → (List Tmoney_part) → Option (List Tmoney_part)
  | 0 => fun _ _ _ _ => none
  | n + 1 => M51 (M52 n)
def M53 (l_1 : List Tmoney_part) : Option (List Tmoney_part) :=
 (M5 ((IntKind.wrap .u64 (((l_1).length : Int))))).bind fun r_3 =>
 (M52 (List.length l_1 + 1) 0 ((((l_1).length : Int))) r_3 l_1).bind fun l_5 =>
 (lenIs l_5 l_1).bind fun _ =>
 some l_5
def M54 (s_1 : List Int) : Option (List Int) :=
 (app 8 (([] : List Int)) s_1).bind fun l_4 =>
 some l_4
def M55 (weights_2 : List Int) (k_16 : Int → Option (List Int × Int)) : Nat → Int → Int → Option (List Int × Int)
  | 0, _, _ => none
  | n_13 + 1, sum_11, v_12 =>
    bif decide (v_12 < (((weights_2).length : Int))) then
     (idx weights_2 v_12).bind fun x_18 =>
     bif decide (x_18 < 0) then some ((([] : List Int)), 1) else
     bif decide (x_18 > 1000) then some ((([] : List Int)), 1) else
     (M55 weights_2 k_16 n_13) ((w64 (sum_11 + x_18))) ((w64 (v_12 + 1)))
    else
    k_16 sum_11
def M56 (y : Tmoney_part) (s : Int × List Tmoney_part) : Option (Int × List Tmoney_part) :=
  match y, s with
  | y_29, (v_32, l_33) =>
    (app 24 l_33 (([y_29] : List Tmoney_part))).bind fun l_35 =>
    some ((w64 (v_32 - y_29.cents)), l_35)
def M57 (v_36 : Int) (l_38 : List Tmoney_part) : Nat → Int → (List Int) → Option (List Int)
  | 0, _, _ => none
  | n_45 + 1, v_43, l_44 =>
    bif decide (v_43 < (((l_38).length : Int))) then
     (idx l_38 v_43).bind fun x_50 =>
     (idxA 256 l_44 x_50.index).bind fun x_51 =>
     bif decide (v_43 < v_36) then
      (idxA 256 (List.set l_44 (Int.toNat x_50.index) (w64 ((-1) * x_50.cents))) x_50.index).bind fun x_53 =>
      (idxA 256 (List.set l_44 (Int.toNat x_50.index) (w64 ((-1) * x_50.cents))) x_50.index).bind fun x_54 =>
      (M57 v_36 l_38 n_45) ((w64 (v_43 + 1))) ((List.set (List.set l_44 (Int.toNat x_50.index) (w64 ((-1) * x_50.cents))) (Int.toNat x_50.index) (w64 (x_53 + (-1)))))
     else
     (M57 v_36 l_38 n_45) ((w64 (v_43 + 1))) ((List.set l_44 (Int.toNat x_50.index) (w64 ((-1) * x_50.cents))))
    else
    some l_44
def M58 (y : Tmoney_part) (s : Int × List Tmoney_part) : Option (Int × List Tmoney_part) :=
  match y, s with
  | y_66, (v_69, l_70) =>
    (app 24 l_70 (([y_66] : List Tmoney_part))).bind fun l_72 =>
    some ((w64 (v_69 - y_66.cents)), l_72)
def M59 (v_73 : Int) (l_75 : List Tmoney_part) : Nat → Int → (List Int) → Option (List Int)
  | 0, _, _ => none
  | n_82 + 1, v_80, l_81 =>
    bif decide (v_80 < (((l_75).length : Int))) then
     (idx l_75 v_80).bind fun x_87 =>
     (idxA 256 l_81 x_87.index).bind fun x_88 =>
     bif decide (v_80 < v_73) then
      (idxA 256 (List.set l_81 (Int.toNat x_87.index) (w64 (1 * x_87.cents))) x_87.index).bind fun x_90 =>
      (idxA 256 (List.set l_81 (Int.toNat x_87.index) (w64 (1 * x_87.cents))) x_87.index).bind fun x_91 =>
      (M59 v_73 l_75 n_82) ((w64 (v_80 + 1))) ((List.set (List.set l_81 (Int.toNat x_87.index) (w64 (1 * x_87.cents))) (Int.toNat x_87.index) (w64 (x_90 + 1))))
     else
     (M59 v_73 l_75 n_82) ((w64 (v_80 + 1))) ((List.set l_81 (Int.toNat x_87.index) (w64 (1 * x_87.cents))))
    else
    some l_81
def M60 (amount_1 : Int) (weights_2 : List Int) (sum_14 : Int) : Option (List Int × Int) :=
 bif sum_14 == 0 then some ((([] : List Int)), 1) else
 bif decide (amount_1 < 0) then
  (M1 ((w64 ((-1) * amount_1))) weights_2 sum_14).bind fun (c_23, c_24, c_25) =>
  (M4 c_23 c_24 c_25).bind fun l_27 =>
  (foldO M56 l_27 ((w64 ((-1) * amount_1)), (([] : List Tmoney_part)))).bind fun (v_36, l_37) =>
  (M53 l_37).bind fun l_38 =>
  (lenIs l_38 l_37).bind fun _ =>
  (M57 v_36 l_38 (((((l_38).length : Int)) - 0 : Int).toNat + 1) 0 (List.replicate 256 0)).bind fun l_46 =>
  (slcA 256 l_46 (((weights_2).length : Int))).bind fun l_56 =>
  (M54 l_56).bind fun r_57 =>
  some (r_57, 0)
 else
 (M1 ((w64 (1 * amount_1))) weights_2 sum_14).bind fun (c_60, c_61, c_62) =>
 (M4 c_60 c_61 c_62).bind fun l_64 =>
 (foldO M58 l_64 ((w64 (1 * amount_1)), (([] : List Tmoney_part)))).bind fun (v_73, l_74) =>
 (M53 l_74).bind fun l_75 =>
 (lenIs l_75 l_74).bind fun _ =>
 (M59 v_73 l_75 (((((l_75).length : Int)) - 0 : Int).toNat + 1) 0 (List.replicate 256 0)).bind fun l_83 =>
 (slcA 256 l_83 (((weights_2).length : Int))).bind fun l_93 =>
 (M54 l_93).bind fun r_94 =>
 some (r_94, 0)
def M61 (amount_1 : Int) (weights_2 : List Int) : Option (List Int × Int) :=
 (M0 amount_1).bind fun r_5 =>
 bif r_5 != 0 then some ((([] : List Int)), 300) else
 bif decide ((((weights_2).length : Int)) > 256) then some ((([] : List Int)), 1) else
 M55 weights_2 (M60 amount_1 weights_2) (((((weights_2).length : Int)) - 0 : Int).toNat + 1) 0 0
def M62 (x_1 : Int) : Option (ByteArray) :=
  if -9223372036854775808 ≤ x_1 ∧ x_1 ≤ 9223372036854775807 then some ⟨(Lib.itoa x_1).toArray⟩ else none
def M63 (s_1 : ByteArray) (n_2 : Int) : Option (ByteArray) :=
  if 0 ≤ n_2 ∧ n_2 ≤ 9223372036854775807 ∧ s_1.size * n_2.toNat ≤ 140737488355328 then some ⟨(Lib.repeatL s_1.data.toList n_2.toNat).toArray⟩ else none
def M64 (n_1 : Int) : Option (ByteArray × Int) :=
 (M0 n_1).bind fun r_4 =>
 bif r_4 != 0 then some (((ByteArray.mk #[])), 300) else
 (M62 ((maxG n_1 (w64 (0 - n_1))))).bind fun r_7 =>
 bif decide ((((r_7.size : Nat) : Int)) < 3) then
  (M63 (((ByteArray.mk #[48]))) ((w64 (3 - (((r_7.size : Nat) : Int)))))).bind fun r_10 =>
  (catS r_10 r_7).bind fun s_12 =>
  (slcS s_12 0 (w64 ((((s_12.size : Nat) : Int)) - 2))).bind fun s_13 =>
  (catS s_13 ((ByteArray.mk #[46]))).bind fun s_14 =>
  (slcS s_12 (w64 ((((s_12.size : Nat) : Int)) - 2)) (((s_12.size : Nat) : Int))).bind fun s_15 =>
  (catS s_14 s_15).bind fun s_16 =>
  bif decide (n_1 < 0) then
   (catS ((ByteArray.mk #[45])) s_16).bind fun s_18 =>
   some (s_18, 0)
  else
  some (s_16, 0)
 else
 (slcS r_7 0 (w64 ((((r_7.size : Nat) : Int)) - 2))).bind fun s_19 =>
 (catS s_19 ((ByteArray.mk #[46]))).bind fun s_20 =>
 (slcS r_7 (w64 ((((r_7.size : Nat) : Int)) - 2)) (((r_7.size : Nat) : Int))).bind fun s_21 =>
 (catS s_20 s_21).bind fun s_22 =>
 bif decide (n_1 < 0) then
  (catS ((ByteArray.mk #[45])) s_22).bind fun s_24 =>
  some (s_24, 0)
 else
 some (s_22, 0)
def M65 (a_1 : List Int) (b_2 : List Int) (k_9 : Unit → Option (Bool)) : Nat → Int → Option (Bool)
  | 0, _ => none
  | n_7 + 1, i_6 =>
    bif decide (i_6 < (((a_1).length : Int))) then
     (idx a_1 i_6).bind fun x_11 =>
     (idx b_2 i_6).bind fun x_12 =>
     bif x_11 != x_12 then some false else
     (M65 a_1 b_2 k_9 n_7) ((w64 (i_6 + 1)))
    else
    k_9 ()
def M66 (_ : Unit) : Option (Bool) :=
 some true
def M67 (a_1 : List Int) (b_2 : List Int) : Option (Bool) :=
 bif (((a_1).length : Int)) != (((b_2).length : Int)) then some false else
 M65 a_1 b_2 M66 (((((a_1).length : Int)) - 0 : Int).toNat + 1) 0
def M68 : Option (Bool) :=
 (M61 100 ((([1, 1, 1] : List Int)))).bind fun (r_2, r_3) =>
 (M61 (-5) ((([1, 3] : List Int)))).bind fun (r_5, r_6) =>
 (M64 (-5)).bind fun (r_8, r_9) =>
 (M64 123456).bind fun (r_11, r_12) =>
 Option.bind (
  bif r_3 == 0 then
   (M67 r_2 ((([34, 33, 33] : List Int)))).bind fun r_17 =>
   bif r_17 then
    bif r_6 == 0 then
     (M67 r_5 ((([(-1), (-4)] : List Int)))).bind fun r_21 =>
     bif r_21 then
      bif r_9 == 0 then
       bif ((r_8.toList == ((ByteArray.mk #[45, 48, 46, 48, 53])).toList) : Bool) then
        bif r_12 == 0 then
         bif ((r_11.toList == ((ByteArray.mk #[49, 50, 51, 52, 46, 53, 54])).toList) : Bool) then
          (M0 1125899906842625).bind fun r_28 =>
          some (r_28 == 300)
         else
         some false
        else
        some false
       else
       some false
      else
      some false
     else
     some false
    else
    some false
   else
   some false
  else
  some false
 ) fun v_14 =>
 some v_14
def M69 (n_1 : Int) : Option (Int) :=
 bif decide (n_1 > 1125899906842624) then some 300 else
 bif decide (n_1 < (-1125899906842624)) then some 300 else
 some 0
def M70 (l_1 : List Int) (k_11 : Int → Option (Int × Int)) : Nat → Int → Int → Option (Int × Int)
  | 0, _, _ => none
  | n_8 + 1, n_6, v_7 =>
    bif decide (v_7 < (((l_1).length : Int))) then
     (idx l_1 v_7).bind fun x_13 =>
     (M0 x_13).bind fun r_14 =>
     bif r_14 != 0 then some (0, 300) else
     (M0 ((w64 (n_6 + x_13)))).bind fun r_17 =>
     bif r_17 != 0 then some (0, 300) else
     (M70 l_1 k_11 n_8) ((w64 (n_6 + x_13))) ((w64 (v_7 + 1)))
    else
    k_11 n_6
def M71 (n_9 : Int) : Option (Int × Int) :=
 some (n_9, 0)
def M72 (l_1 : List Int) : Option (Int × Int) :=
 M70 l_1 M71 (((((l_1).length : Int)) - 0 : Int).toNat + 1) 0 0
def M73 (l_1 : List Int) (k_11 : Int → Option (Int × Int)) : Nat → Int → Int → Option (Int × Int)
  | 0, _, _ => none
  | n_8 + 1, n_6, i_7 =>
    bif decide (i_7 < (((l_1).length : Int))) then
     (idx l_1 i_7).bind fun x_13 =>
     (M69 x_13).bind fun r_14 =>
     bif r_14 != 0 then some (0, 300) else
     (idx l_1 i_7).bind fun x_17 =>
     (M69 ((w64 (n_6 + x_17)))).bind fun r_18 =>
     bif r_18 != 0 then some (0, 300) else
     (idx l_1 i_7).bind fun x_21 =>
     (M73 l_1 k_11 n_8) ((w64 (n_6 + x_21))) ((w64 (i_7 + 1)))
    else
    k_11 n_6
def M74 (n_9 : Int) : Option (Int × Int) :=
 some (n_9, 0)
def M75 (l_1 : List Int) : Option (Int × Int) :=
 M73 l_1 M74 (((((l_1).length : Int)) - 0 : Int).toNat + 1) 0 0
def M76 (weights_2 : List Int) (k_20 : Int → Option (Bool)) : Nat → Int → Int → Option (Bool)
  | 0, _, _ => none
  | n_17 + 1, sum_15, v_16 =>
    bif decide (v_16 < (((weights_2).length : Int))) then
     (idx weights_2 v_16).bind fun x_22 =>
     bif decide (x_22 < 0) then some false else
     bif decide (x_22 > 1000) then some false else
     (M76 weights_2 k_20 n_17) ((w64 (sum_15 + x_22))) ((w64 (v_16 + 1)))
    else
    k_20 sum_15
def M77 (weights_2 : List Int) (r_8 : List Int) (v_32 : Int) (x_38 : Int) (k_72 : Unit → Option (Bool)) : Nat → Int → Option (Bool)
  | 0, _ => none
  | n_70 + 1, v_69 =>
    bif decide (v_69 < (((r_8).length : Int))) then
     (idx r_8 v_69).bind fun x_74 =>
     Option.bind (
      (idx weights_2 v_32).bind fun x_77 =>
      (idx weights_2 v_69).bind fun x_78 =>
      bif decide (x_77 > x_78) then
       bif decide ((maxG x_38 (w64 (0 - x_38))) < (maxG x_74 (w64 (0 - x_74)))) then some true else
       (idx weights_2 v_32).bind fun x_81 =>
       (idx weights_2 v_69).bind fun x_82 =>
       bif x_81 == x_82 then
        bif decide ((w64 (x_38 - x_74)) > 1) then some true else
        some (decide ((w64 (x_74 - x_38)) > 1))
       else
       some false
      else
      (idx weights_2 v_32).bind fun x_85 =>
      (idx weights_2 v_69).bind fun x_86 =>
      bif x_85 == x_86 then
       bif decide ((w64 (x_38 - x_74)) > 1) then some true else
       some (decide ((w64 (x_74 - x_38)) > 1))
      else
      some false
     ) fun v_75 =>
     bif v_75 then some false else
     (M77 weights_2 r_8 v_32 x_38 k_72 n_70) ((w64 (v_69 + 1)))
    else
    k_72 ()
def M78 (n_31 : Int) (v_32 : Int) (nx_35 : Int → Int → Option (Bool)) (x_38 : Int) (_ : Unit) : Option (Bool) :=
 nx_35 ((w64 (n_31 + x_38))) ((w64 (v_32 + 1)))
def M79 (amount_1 : Int) (weights_2 : List Int) (r_8 : List Int) (sum_18 : Int) (k_36 : Int → Option (Bool)) : Nat → Int → Int → Option (Bool)
  | 0, _, _ => none
  | n_33 + 1, n_31, v_32 =>
    bif decide (v_32 < (((r_8).length : Int))) then
     (idx r_8 v_32).bind fun x_38 =>
     Option.bind (
      (M0 x_38).bind fun r_41 =>
      bif r_41 != 0 then some true else
      bif decide (x_38 > 0) then
       bif decide (amount_1 ≤ 0) then some true else
       bif decide (x_38 < 0) then
        bif decide (amount_1 ≥ 0) then some true else
        (idx weights_2 v_32).bind fun x_48 =>
        bif x_48 == 0 then some (x_38 != 0) else
        some false
       else
       (idx weights_2 v_32).bind fun x_50 =>
       bif x_50 == 0 then some (x_38 != 0) else
       some false
      else
      bif decide (x_38 < 0) then
       bif decide (amount_1 ≥ 0) then some true else
       (idx weights_2 v_32).bind fun x_54 =>
       bif x_54 == 0 then some (x_38 != 0) else
       some false
      else
      (idx weights_2 v_32).bind fun x_56 =>
      bif x_56 == 0 then some (x_38 != 0) else
      some false
     ) fun v_39 =>
     bif v_39 then some false else
     (idx weights_2 v_32).bind fun x_59 =>
     (nz sum_18).bind fun u_60 =>
     Option.bind (
      bif decide ((maxG x_38 (w64 (0 - x_38))) < (w64 (Int.tdiv (w64 ((maxG amount_1 (w64 (0 - amount_1))) * x_59)) sum_18))) then some true else
      bif decide ((maxG x_38 (w64 (0 - x_38))) > (w64 ((w64 (Int.tdiv (w64 ((maxG amount_1 (w64 (0 - amount_1))) * x_59)) sum_18)) + 1))) then some true else
      bif (maxG x_38 (w64 (0 - x_38))) == (w64 ((w64 (Int.tdiv (w64 ((maxG amount_1 (w64 (0 - amount_1))) * x_59)) sum_18)) + 1)) then
       (nz sum_18).bind fun u_66 =>
       some ((Int.tmod (w64 ((maxG amount_1 (w64 (0 - amount_1))) * x_59)) sum_18) == 0)
      else
      some false
     ) fun v_61 =>
     bif v_61 then some false else
     M77 weights_2 r_8 v_32 x_38 (M78 n_31 v_32 (M79 amount_1 weights_2 r_8 sum_18 k_36 n_33) x_38) (((((r_8).length : Int)) - 0 : Int).toNat + 1) 0
    else
    k_36 n_31
def M80 (amount_1 : Int) (r_8 : List Int) (n_34 : Int) : Option (Bool) :=
 (M72 r_8).bind fun (r_90, r_91) =>
 bif n_34 == amount_1 then
  bif r_91 == 0 then some (r_90 == amount_1) else
  some false
 else
 some false
def M81 (amount_1 : Int) (weights_2 : List Int) (r_8 : List Int) (sum_18 : Int) : Option (Bool) :=
 bif sum_18 == 0 then some false else
 (M0 amount_1).bind fun r_26 =>
 bif r_26 != 0 then some false else
 M79 amount_1 weights_2 r_8 sum_18 (M80 amount_1 r_8) (((((r_8).length : Int)) - 0 : Int).toNat + 1) 0 0
def M82 (amount_1 : Int) (weights_2 : List Int) : Option (Bool) :=
 (M68).bind fun r_4 =>
 bif !r_4 then some false else
 bif decide ((((weights_2).length : Int)) > 256) then some true else
 (M61 amount_1 weights_2).bind fun (r_8, r_9) =>
 bif r_9 != 0 then some ((((r_8).length : Int)) == 0) else
 bif (((r_8).length : Int)) != (((weights_2).length : Int)) then some false else
 M76 weights_2 (M81 amount_1 weights_2 r_8) (((((weights_2).length : Int)) - 0 : Int).toNat + 1) 0 0
end Go.Stop
