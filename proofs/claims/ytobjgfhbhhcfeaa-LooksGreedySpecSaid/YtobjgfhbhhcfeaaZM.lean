/- Models of functions, by program (gen.py). No condition. -/
import Derived.Test.YtobjgfhbhhcfeaaZB14
namespace Go.Stop
open Go Go.Abs
set_option linter.unusedVariables false
structure TSegment where
 Mat:Int
 Epoch:Int
 Anchor:Int
 deriving DecidableEq,Inhabited
structure TClocks where
 Segments:List TSegment
 Far:List (List Int)
 deriving DecidableEq,Inhabited
structure TPair where
 A:Int
 B:Int
 deriving DecidableEq,Inhabited
structure TOutcome where
 Out:Bool
 Seg:Int
 Lo:Int
 Hi:Int
 deriving DecidableEq,Inhabited
structure TRunner where
 Bib:Int
 Keys:List Int
 Worlds:List (List TOutcome)
 deriving DecidableEq,Inhabited
structure TField where
 Clocks:TClocks
 Pairs:List TPair
 Runners:List TRunner
 deriving DecidableEq,Inhabited
structure TSpan where
 Lo:Int
 Hi:Int
 deriving DecidableEq,Inhabited
structure TLook where
 Runner:Int
 Answers:List TSpan
 deriving DecidableEq,Inhabited
structure TQuestion where
 Field:TField
 Runner:Int
 Looks:List TLook
 deriving DecidableEq,Inhabited
structure TChoice where
 Outcome:Int
 X:Int
 deriving DecidableEq,Inhabited
structure THistory where
 World:Int
 Offsets:List Int
 Choices:List TChoice
 deriving DecidableEq,Inhabited
structure TRank where
 Bib:Int
 Kind:Int
 Lo:Int
 Hi:Int
 Out:Bool
 deriving DecidableEq,Inhabited
structure Tranks_place where
 world:Int
 outcome:Int
 rank:Int
 deriving DecidableEq,Inhabited
structure Tclocks_place where
 mat:Int
 epoch:Int
 deriving DecidableEq,Inhabited
def eTSegment (x:TSegment):D:=.ag [(.i .i64 x.Mat),(.i .i64 x.Epoch),(.i .i64 x.Anchor)]
def eTClocks (x:TClocks):D:=.ag [(.ls (List.map eTSegment x.Segments)),(.ls (List.map (eL eI) x.Far))]
def eTPair (x:TPair):D:=.ag [(.i .i64 x.A),(.i .i64 x.B)]
def eTOutcome (x:TOutcome):D:=.ag [(.b x.Out),(.i .i64 x.Seg),(.i .i64 x.Lo),(.i .i64 x.Hi)]
def eTRunner (x:TRunner):D:=.ag [(.i .i64 x.Bib),(.ls (List.map eI x.Keys)),(.ls (List.map (eL eTOutcome) x.Worlds))]
def eTField (x:TField):D:=.ag [(.ls (List.map eTSegment x.Clocks.Segments)),(.ls (List.map (eL eI) x.Clocks.Far)),(.ls (List.map eTPair x.Pairs)),(.ls (List.map eTRunner x.Runners))]
def eTSpan (x:TSpan):D:=.ag [(.i .i64 x.Lo),(.i .i64 x.Hi)]
def eTLook (x:TLook):D:=.ag [(.i .i64 x.Runner),(.ls (List.map eTSpan x.Answers))]
def eTQuestion (x:TQuestion):D:=.ag [(.ls (List.map eTSegment x.Field.Clocks.Segments)),(.ls (List.map (eL eI) x.Field.Clocks.Far)),(.ls (List.map eTPair x.Field.Pairs)),(.ls (List.map eTRunner x.Field.Runners)),(.i .i64 x.Runner),(.ls (List.map eTLook x.Looks))]
def eTRank (x:TRank):D:=.ag [(.i .i64 x.Bib),(.i .i64 x.Kind),(.i .i64 x.Lo),(.i .i64 x.Hi),(.b x.Out)]
def eTranks_place (x:Tranks_place):D:=.ag [(.i .i64 x.world),(.i .i64 x.outcome),(.i .i64 x.rank)]
def eTclocks_place (x:Tclocks_place):D:=.ag [(.i .i64 x.mat),(.i .i64 x.epoch)]
def M0:Option (TQuestion) :=
 some ({ Field:=({ Clocks:=({ Segments:=(([]:List TSegment)),Far:=(([(([0]:List Int))]:List (List Int))) }:TClocks),Pairs:=(([]:List TPair)),Runners:=(([({ Bib:=3,Keys:=(([]:List Int)),Worlds:=(([(([({ Out:=false,Seg:=(-1),Lo:=8,Hi:=11 }:TOutcome)]:List TOutcome))]:List (List TOutcome))) }:TRunner),({ Bib:=5,Keys:=(([]:List Int)),Worlds:=(([(([({ Out:=false,Seg:=(-1),Lo:=10,Hi:=10 }:TOutcome)]:List TOutcome))]:List (List TOutcome))) }:TRunner)]:List TRunner)) }:TField),Runner:=0,Looks:=(([({ Runner:=1,Answers:=(([({ Lo:=0,Hi:=20 }:TSpan)]:List TSpan)) }:TLook),({ Runner:=0,Answers:=(([({ Lo:=0,Hi:=7 }:TSpan),({ Lo:=8,Hi:=10 }:TSpan),({ Lo:=11,Hi:=30 }:TSpan)]:List TSpan)) }:TLook)]:List TLook)) }:TQuestion)
def M1 (n_1:Int):Option (Bool) :=
 bif decide (n_1≥(-1099511627776)) then some (decide (n_1≤1099511627776)) else
 some false
def M2 (x_1:Int):Option (Bool) :=
 some (x_1 != x_1)
def M3 (x_1:Int) (y_2:Int):Option (Int) :=
 (M2 x_1).bind fun r_4 =>
 (M2 y_2).bind fun r_6 =>
 bif r_4 then
  bif r_6 then some 0 else
  some (-1)
 else
 bif r_6 then some 1 else
 bif decide (x_1 < y_2) then some (-1) else
 bif decide (x_1 > y_2) then some 1 else
 some 0
def M4 (vals_1:List Int) (k_7:Unit→Option (Int)):Nat→Int→Option (Int)
  | 0,_=>none
  | n_5+1,v_4 =>
    bif decide (v_4 < (((vals_1).length:Int))) then
     (idx vals_1 v_4).bind fun x_9 =>
     bif x_9 != 0 then some x_9 else
     (M4 vals_1 k_7 n_5) ((w64 (v_4+1)))
    else
    k_7 ()
def M5 (_:Unit):Option (Int) :=
 some 0
def M6 (vals_1:List Int):Option (Int) :=
 M4 vals_1 M5 (((((vals_1).length:Int)) - 0:Int).toNat+1) 0
def M7 (p_1:Tclocks_place) (q_2:Tclocks_place):Option (Int) :=
 (M3 p_1.mat q_2.mat).bind fun r_4 =>
 (M3 p_1.epoch q_2.epoch).bind fun r_6 =>
 (M6 ((([r_4,r_6]:List Int)))).bind fun r_8 =>
 some r_8
def M8 (a_1:TSegment) (b_2:TSegment):Option (Int) :=
 (M7 ({ mat:=a_1.Mat,epoch:=a_1.Epoch }:Tclocks_place) ({ mat:=b_2.Mat,epoch:=b_2.Epoch }:Tclocks_place)).bind fun r_4 =>
 some r_4
def M9 (w_1:Int):Option (Bool) :=
 bif decide (w_1 < (-2199023255552)) then some true else
 some (decide (w_1 > 2199023255552))
def M10 (s_1:List Int) (k_7:Unit→Option (Int)):Nat→Int→Option (Int)
  | 0,_=>none
  | n_5+1,v_4 =>
    bif decide (v_4 < (((s_1).length:Int))) then
     (idx s_1 v_4).bind fun x_9 =>
     (M9 x_9).bind fun r_10 =>
     bif r_10 then some v_4 else
     (M10 s_1 k_7 n_5) ((w64 (v_4+1)))
    else
    k_7 ()
def M11 (_:Unit):Option (Int) :=
 some (-1)
def M12 (s_1:List Int):Option (Int) :=
 M10 s_1 M11 (((((s_1).length:Int)) - 0:Int).toNat+1) 0
def M13 (s_1:List Int):Option (Bool) :=
 (M12 s_1).bind fun r_3 =>
 some (decide (r_3≥0))
def M14 (k_1:TClocks) (k_9:Unit→Option (Int)):Nat→Int→Option (Int)
  | 0,_=>none
  | n_7+1,v_6 =>
    bif decide (v_6 < (((k_1.Segments).length:Int))) then
     (idx k_1.Segments v_6).bind fun x_11 =>
     Option.bind (
      bif decide (x_11.Mat < 0) then some true else
      bif decide (x_11.Mat≥40) then some true else
      bif decide (x_11.Epoch < 0) then some true else
      bif decide (x_11.Epoch > 255) then some true else
      (M1 x_11.Anchor).bind fun r_18 =>
      bif !r_18 then some true else
      bif decide (v_6 > 0) then
       (idx k_1.Segments (w64 (v_6 - 1))).bind fun x_22 =>
       (M8 x_22 x_11).bind fun r_23 =>
       some (decide (r_23≥0))
      else
      some false
     ) fun v_12 =>
     bif v_12 then some 160 else
     (M14 k_1 k_9 n_7) ((w64 (v_6+1)))
    else
    k_9 ()
def M15 (k_1:TClocks) (k_30:Unit→Option (Int)):Nat→Int→Option (Int)
  | 0,_=>none
  | n_28+1,v_27 =>
    bif decide (v_27 < (((k_1.Far).length:Int))) then
     (idx k_1.Far v_27).bind fun x_32 =>
     bif (((x_32).length:Int)) != (w64 ((((k_1.Segments).length:Int))+1)) then some 160 else
     (idx x_32 v_27).bind fun x_34 =>
     bif x_34 != 0 then some 160 else
     (M13 x_32).bind fun r_36 =>
     bif r_36 then some 160 else
     (M15 k_1 k_30 n_28) ((w64 (v_27+1)))
    else
    k_30 ()
def M16 (k_1:TClocks) (v_40:Int) (x_52:Int) (x_53:List Int) (k_58:Unit→Option (Int)):Nat→Int→Option (Int)
  | 0,_=>none
  | n_56+1,v_55 =>
    bif decide (v_55 < (((x_53).length:Int))) then
     (idx x_53 v_55).bind fun x_60 =>
     (idx k_1.Far v_40).bind fun x_61 =>
     (idx x_61 v_55).bind fun x_62 =>
     bif decide (x_62 > (w64 (x_52+x_60))) then some 160 else
     (M16 k_1 v_40 x_52 x_53 k_58 n_56) ((w64 (v_55+1)))
    else
    k_58 ()
def M17 (v_47:Int) (nx_49:Int→Option (Int)) (_:Unit):Option (Int) :=
 nx_49 ((w64 (v_47+1)))
def M18 (k_1:TClocks) (v_40:Int) (x_45:List Int) (k_50:Unit→Option (Int)):Nat→Int→Option (Int)
  | 0,_=>none
  | n_48+1,v_47 =>
    bif decide (v_47 < (((x_45).length:Int))) then
     (idx x_45 v_47).bind fun x_52 =>
     (idx k_1.Far v_47).bind fun x_53 =>
     M16 k_1 v_40 x_52 x_53 (M17 v_47 (M18 k_1 v_40 x_45 k_50 n_48)) (((((x_53).length:Int)) - 0:Int).toNat+1) 0
    else
    k_50 ()
def M19 (v_40:Int) (nx_42:Int→Option (Int)) (_:Unit):Option (Int) :=
 nx_42 ((w64 (v_40+1)))
def M20 (k_1:TClocks) (k_43:Unit→Option (Int)):Nat→Int→Option (Int)
  | 0,_=>none
  | n_41+1,v_40 =>
    bif decide (v_40 < (w64 ((((k_1.Segments).length:Int))+1))) then
     (idx k_1.Far v_40).bind fun x_45 =>
     M18 k_1 v_40 x_45 (M19 v_40 (M20 k_1 k_43 n_41)) (((((x_45).length:Int)) - 0:Int).toNat+1) 0
    else
    k_43 ()
def M21 (_:Unit):Option (Int) :=
 some 0
def M22 (k_1:TClocks) (_:Unit):Option (Int) :=
 M20 k_1 M21 (((w64 ((((k_1.Segments).length:Int))+1)) - 0:Int).toNat+1) 0
def M23 (k_1:TClocks) (_:Unit):Option (Int) :=
 M15 k_1 (M22 k_1) (((((k_1.Far).length:Int)) - 0:Int).toNat+1) 0
def M24 (k_1:TClocks):Option (Int) :=
 bif decide ((((k_1.Segments).length:Int)) > 511) then some 160 else
 bif (((k_1.Far).length:Int)) != (w64 ((((k_1.Segments).length:Int))+1)) then some 160 else
 M14 k_1 (M23 k_1) (((((k_1.Segments).length:Int)) - 0:Int).toNat+1) 0
def M25 (slices_1:List (List TOutcome)):Nat→Int→Int→Option (Int)
  | 0,_,_=>none
  | n_7+1,size_5,v_6 =>
    bif decide (v_6 < (((slices_1).length:Int))) then
     (idx slices_1 v_6).bind fun x_12 =>
     bif decide ((w64 (size_5+(((x_12).length:Int)))) < 0) then none else
     (M25 slices_1 n_7) ((w64 (size_5+(((x_12).length:Int))))) ((w64 (v_6+1)))
    else
    some size_5
def M26 (slices_1:List (List TOutcome)):Nat→Int→(List TOutcome)→Option (List TOutcome)
  | 0,_,_=>none
  | n_23+1,v_21,l_22 =>
    bif decide (v_21 < (((slices_1).length:Int))) then
     (idx slices_1 v_21).bind fun x_28 =>
     (app 32 l_22 x_28).bind fun l_29 =>
     (M26 slices_1 n_23) ((w64 (v_21+1))) l_29
    else
    some l_22
def M27 (slices_1:List (List TOutcome)):Nat→Int→(List TOutcome)→Option (List TOutcome)
  | 0,_,_=>none
  | n_35+1,v_33,l_34 =>
    bif decide (v_33 < (((slices_1).length:Int))) then
     (idx slices_1 v_33).bind fun x_40 =>
     (app 32 l_34 x_40).bind fun l_41 =>
     (M27 slices_1 n_35) ((w64 (v_33+1))) l_41
    else
    some l_34
def M28 (slices_1:List (List TOutcome)):Option (List TOutcome) :=
 (M25 slices_1 (((((slices_1).length:Int)) - 0:Int).toNat+1) 0 0).bind fun size_8 =>
 bif decide (size_8 < 0) then none else
 bif decide ((w64 (size_8 - 0)) > 0) then
  (mkZ 32 (w64 (size_8 - 0))).bind fun n_17 =>
  (slcTo (List.replicate n_17 ({ Out:=false,Seg:=0,Lo:=0,Hi:=0 }:TOutcome)) 0).bind fun l_18 =>
  (M26 slices_1 (((((slices_1).length:Int)) - 0:Int).toNat+1) 0 l_18).bind fun l_24 =>
  some l_24
 else
 (M27 slices_1 (((((slices_1).length:Int)) - 0:Int).toNat+1) 0 ((([]:List TOutcome)))).bind fun l_36 =>
 some l_36
def M29:Option (TOutcome) :=
 some ({ Out:=true,Seg:=(-1),Lo:=0,Hi:=0 }:TOutcome)
def M30 (k_1:TClocks) (x_2:TOutcome):Option (Int) :=
 (M24 k_1).bind fun r_4 =>
 bif r_4 != 0 then some r_4 else
 bif x_2.Out then
  (M29).bind fun r_13 =>
  bif !((x_2.Out == r_13.Out) && ((x_2.Seg == r_13.Seg) && ((x_2.Lo == r_13.Lo) && ((x_2.Hi == r_13.Hi) && true)))) then some 230 else
  some 0
 else
 bif !((decide (x_2.Seg≥(-1))) && ((decide (x_2.Seg < (((k_1.Segments).length:Int)))) && ((decide (x_2.Lo≥(-288230376151711744))) && ((decide (x_2.Lo≤x_2.Hi)) && (decide (x_2.Hi≤288230376151711744)))))) then some 230 else
 some 0
def M31 (r_1:TRunner) (c_2:Int):Option (Bool) :=
 (idx r_1.Worlds c_2).bind fun x_4 =>
 some ((((x_4).length:Int)) == 0)
def M32 (s_1:List TRunner) (c_2:Int) (k_8:Unit→Option (Int)):Nat→Int→Option (Int)
  | 0,_=>none
  | n_6+1,v_5 =>
    bif decide (v_5 < (((s_1).length:Int))) then
     (idx s_1 v_5).bind fun x_10 =>
     (M31 x_10 c_2).bind fun r_11 =>
     bif r_11 then some v_5 else
     (M32 s_1 c_2 k_8 n_6) ((w64 (v_5+1)))
    else
    k_8 ()
def M33 (_:Unit):Option (Int) :=
 some (-1)
def M34 (s_1:List TRunner) (c_2:Int):Option (Int) :=
 M32 s_1 c_2 M33 (((((s_1).length:Int)) - 0:Int).toNat+1) 0
def M35 (s_1:List TRunner) (c_2:Int):Option (Bool) :=
 (M34 s_1 c_2).bind fun r_4 =>
 some (decide (r_4≥0))
def M36 (f_1:TField) (k_7:Unit→Option (Bool)):Nat→Int→Option (Bool)
  | 0,_=>none
  | n_5+1,v_4 =>
    bif decide (v_4 < (w64 ((((f_1.Pairs).length:Int))+1))) then
     (M35 f_1.Runners v_4).bind fun r_9 =>
     bif !r_9 then some true else
     (M36 f_1 k_7 n_5) ((w64 (v_4+1)))
    else
    k_7 ()
def M37 (_:Unit):Option (Bool) :=
 some false
def M38 (f_1:TField):Option (Bool) :=
 M36 f_1 M37 (((w64 ((((f_1.Pairs).length:Int))+1)) - 0:Int).toNat+1) 0
def M39 (f_1:TField) (k_19:Unit→Option (Int)):Nat→Int→Int→Int→Option (Int)
  | 0,_,_,_=>none
  | n_17+1,v_14,v_15,v_16 =>
    bif decide (v_14 < (((f_1.Pairs).length:Int))) then
     (idx f_1.Pairs v_14).bind fun x_21 =>
     bif (decide (x_21.A < 1)) || ((decide (x_21.A≥x_21.B)) || ((decide (x_21.B > 9999)) || ((decide (x_21.A < v_15)) || ((x_21.A == v_15) && (decide (x_21.B≤v_16)))))) then some 240 else
     (M39 f_1 k_19 n_17) ((w64 (v_14+1))) x_21.A x_21.B
    else
    k_19 ()
def M40 (f_1:TField) (r_45:List TOutcome) (k_51:Unit→Option (Int)):Nat→Int→Option (Int)
  | 0,_=>none
  | n_49+1,v_48 =>
    bif decide (v_48 < (((r_45).length:Int))) then
     (idx r_45 v_48).bind fun x_53 =>
     (M30 f_1.Clocks x_53).bind fun r_54 =>
     bif r_54 != 0 then some 240 else
     (M40 f_1 r_45 k_51 n_49) ((w64 (v_48+1)))
    else
    k_51 ()
def M41 (v_32:Int) (nx_34:Int→Int→Option (Int)) (x_37:TRunner) (_:Unit):Option (Int) :=
 nx_34 x_37.Bib ((w64 (v_32+1)))
def M42 (f_1:TField) (k_35:Unit→Option (Int)):Nat→Int→Int→Option (Int)
  | 0,_,_=>none
  | n_33+1,bib_31,v_32 =>
    bif decide (v_32 < (((f_1.Runners).length:Int))) then
     (idx f_1.Runners v_32).bind fun x_37 =>
     Option.bind (
      bif decide (x_37.Bib≤bib_31) then some true else
      bif decide (x_37.Bib > 9999) then some true else
      (idx f_1.Runners 0).bind fun x_42 =>
      bif (((x_37.Keys).length:Int)) != (((x_42.Keys).length:Int)) then some true else
      some ((((x_37.Worlds).length:Int)) != (w64 ((((f_1.Pairs).length:Int))+1)))
     ) fun v_38 =>
     bif v_38 then some 240 else
     (M28 x_37.Worlds).bind fun r_45 =>
     M40 f_1 r_45 (M41 v_32 (M42 f_1 k_35 n_33) x_37) (((((r_45).length:Int)) - 0:Int).toNat+1) 0
    else
    k_35 ()
def M43 (f_1:TField) (_:Unit):Option (Int) :=
 (M38 f_1).bind fun r_57 =>
 bif !r_57 then some 240 else
 some 0
def M44 (f_1:TField) (_:Unit):Option (Int) :=
 M42 f_1 (M43 f_1) (((((f_1.Runners).length:Int)) - 0:Int).toNat+1) 0 0
def M45 (f_1:TField):Option (Int) :=
 Option.bind (
  (M24 f_1.Clocks).bind fun r_5 =>
  bif r_5 != 0 then some true else
  bif decide ((((f_1.Pairs).length:Int)) > 16) then some true else
  bif decide ((((f_1.Runners).length:Int)) < 1) then some true else
  some (decide ((((f_1.Runners).length:Int)) > 4000))
 ) fun v_3 =>
 bif v_3 then some 240 else
 M39 f_1 (M44 f_1) (((((f_1.Pairs).length:Int)) - 0:Int).toNat+1) 0 0 0
def M46 (x_1:TOutcome) (answers_2:List TSpan) (k_10:Unit→Option (Bool)):Nat→Int→Int→Option (Bool)
  | 0,_,_=>none
  | n_8+1,at_6,v_7 =>
    bif decide (v_7 < (((answers_2).length:Int))) then
     (idx answers_2 v_7).bind fun x_12 =>
     bif (decide (x_12.Lo≤at_6)) && (decide (at_6≤x_12.Hi)) then
      bif decide (x_1.Hi≤x_12.Hi) then some true else
      (M46 x_1 answers_2 k_10 n_8) ((w64 (x_12.Hi+1))) ((w64 (v_7+1)))
     else
     (M46 x_1 answers_2 k_10 n_8) at_6 ((w64 (v_7+1)))
    else
    k_10 ()
def M47 (_:Unit):Option (Bool) :=
 some false
def M48 (x_1:TOutcome) (answers_2:List TSpan):Option (Bool) :=
 M46 x_1 answers_2 M47 (((((answers_2).length:Int)) - 0:Int).toNat+1) x_1.Lo 0
def M49 (x_17:TLook) (k_27:Unit→Option (Int)):Nat→Int→Option (Int)
  | 0,_=>none
  | n_25+1,v_24 =>
    bif decide (v_24 < (((x_17.Answers).length:Int))) then
     (idx x_17.Answers v_24).bind fun x_29 =>
     bif decide (x_29.Lo > x_29.Hi) then some 360 else
     bif decide (v_24 > 0) then
      (idx x_17.Answers (w64 (v_24 - 1))).bind fun x_32 =>
      bif decide (x_29.Lo≤x_32.Hi) then some 360 else
      (M49 x_17 k_27 n_25) ((w64 (v_24+1)))
     else
     (M49 x_17 k_27 n_25) ((w64 (v_24+1)))
    else
    k_27 ()
def M50 (x_17:TLook) (r_35:List TOutcome) (k_41:Unit→Option (Int)):Nat→Int→Option (Int)
  | 0,_=>none
  | n_39+1,v_38 =>
    bif decide (v_38 < (((r_35).length:Int))) then
     (idx r_35 v_38).bind fun x_43 =>
     bif x_43.Out then some 360 else
     (M48 x_43 x_17.Answers).bind fun r_45 =>
     bif !r_45 then some 360 else
     (M50 x_17 r_35 k_41 n_39) ((w64 (v_38+1)))
    else
    k_41 ()
def M51 (v_12:Int) (nx_14:Int→Option (Int)) (_:Unit):Option (Int) :=
 nx_14 ((w64 (v_12+1)))
def M52 (q_1:TQuestion) (v_12:Int) (nx_14:Int→Option (Int)) (x_17:TLook) (_:Unit):Option (Int) :=
 (idx q_1.Field.Runners x_17.Runner).bind fun x_34 =>
 (M28 x_34.Worlds).bind fun r_35 =>
 M50 x_17 r_35 (M51 v_12 nx_14) (((((r_35).length:Int)) - 0:Int).toNat+1) 0
def M53 (q_1:TQuestion) (k_15:Unit→Option (Int)):Nat→Int→Option (Int)
  | 0,_=>none
  | n_13+1,v_12 =>
    bif decide (v_12 < (((q_1.Looks).length:Int))) then
     (idx q_1.Looks v_12).bind fun x_17 =>
     bif (decide (x_17.Runner < 0)) || ((decide (x_17.Runner≥(((q_1.Field.Runners).length:Int)))) || ((decide ((((x_17.Answers).length:Int)) < 1)) || (decide ((((x_17.Answers).length:Int)) > 4)))) then some 360 else
     M49 x_17 (M52 q_1 v_12 (M53 q_1 k_15 n_13) x_17) (((((x_17.Answers).length:Int)) - 0:Int).toNat+1) 0
    else
    k_15 ()
def M54 (_:Unit):Option (Int) :=
 some 0
def M55 (q_1:TQuestion):Option (Int) :=
 Option.bind (
  (M45 q_1.Field).bind fun r_5 =>
  bif r_5 != 0 then some true else
  bif decide (q_1.Runner < 0) then some true else
  bif decide (q_1.Runner≥(((q_1.Field.Runners).length:Int))) then some true else
  some (decide ((((q_1.Looks).length:Int)) > 16))
 ) fun v_3 =>
 bif v_3 then some 360 else
 M53 q_1 M54 (((((q_1.Looks).length:Int)) - 0:Int).toNat+1) 0
def M56 (s_1:List TRunner):Option (List TRunner) :=
 (app 56 (([]:List TRunner)) s_1).bind fun l_4 =>
 some l_4
def M57 (r_1:TRunner) (c_2:Int):Option (Bool) :=
 (idx r_1.Worlds c_2).bind fun x_4 =>
 some ((((x_4).length:Int)) == 0)
def M58 (s_1:List TRunner) (c_2:Int) (k_8:Unit→Option (Int)):Nat→Int→Option (Int)
  | 0,_=>none
  | n_6+1,v_5 =>
    bif decide (v_5 < (((s_1).length:Int))) then
     (idx s_1 v_5).bind fun x_10 =>
     (M57 x_10 c_2).bind fun r_11 =>
     bif r_11 then some v_5 else
     (M58 s_1 c_2 k_8 n_6) ((w64 (v_5+1)))
    else
    k_8 ()
def M59 (_:Unit):Option (Int) :=
 some (-1)
def M60 (s_1:List TRunner) (c_2:Int):Option (Int) :=
 M58 s_1 c_2 M59 (((((s_1).length:Int)) - 0:Int).toNat+1) 0
def M61 (s_1:List TRunner) (c_2:Int):Option (Bool) :=
 (M60 s_1 c_2).bind fun r_4 =>
 some (decide (r_4≥0))
def M62 (answer_3:TSpan) (x_17:List TOutcome):Nat→Int→(List TOutcome)→Option (List TOutcome)
  | 0,_,_=>none
  | n_22+1,v_20,l_21 =>
    bif decide (v_20 < (((x_17).length:Int))) then
     (idx x_17 v_20).bind fun x_27 =>
     bif decide ((maxG x_27.Lo answer_3.Lo)≤(minG x_27.Hi answer_3.Hi)) then
      (app 32 l_21 (([({ Out:=x_27.Out,Seg:=x_27.Seg,Lo:=(maxG x_27.Lo answer_3.Lo),Hi:=(minG x_27.Hi answer_3.Hi) }:TOutcome)]:List TOutcome))).bind fun l_29 =>
      (M62 answer_3 x_17 n_22) ((w64 (v_20+1))) l_29
     else
     (M62 answer_3 x_17 n_22) ((w64 (v_20+1))) l_21
    else
    some l_21
def M63 (answer_3:TSpan) (x_7:TRunner):Nat→Int→(List (List TOutcome))→Option (List (List TOutcome))
  | 0,_,_=>none
  | n_12+1,v_10,l_11 =>
    bif decide (v_10 < (((x_7.Worlds).length:Int))) then
     (idx x_7.Worlds v_10).bind fun x_17 =>
     (M62 answer_3 x_17 (((((x_17).length:Int)) - 0:Int).toNat+1) 0 ((([]:List TOutcome)))).bind fun l_23 =>
     (app 24 l_11 (([l_23]:List (List TOutcome)))).bind fun l_31 =>
     (M63 answer_3 x_7 n_12) ((w64 (v_10+1))) l_31
    else
    some l_11
def M64 (q_1:TQuestion) (x_2:TLook) (l_6:List TRunner) (x_7:TRunner) (l_13:List (List TOutcome)) (k_37:Unit→Option (TQuestion × Bool)):Nat→Int→Option (TQuestion × Bool)
  | 0,_=>none
  | n_35+1,v_34 =>
    bif decide (v_34 < (w64 ((((q_1.Field.Pairs).length:Int))+1))) then
     (M61 ((List.set l_6 (Int.toNat x_2.Runner) ({ Bib:=x_7.Bib,Keys:=x_7.Keys,Worlds:=l_13 }:TRunner))) v_34).bind fun r_39 =>
     bif !r_39 then some (({ Field:=({ Clocks:=q_1.Field.Clocks,Pairs:=q_1.Field.Pairs,Runners:=(List.set l_6 (Int.toNat x_2.Runner) ({ Bib:=x_7.Bib,Keys:=x_7.Keys,Worlds:=l_13 }:TRunner)) }:TField),Runner:=q_1.Runner,Looks:=q_1.Looks }:TQuestion),true) else
     (M64 q_1 x_2 l_6 x_7 l_13 k_37 n_35) ((w64 (v_34+1)))
    else
    k_37 ()
def M65 (_:Unit):Option (TQuestion × Bool) :=
 some (({ Field:=({ Clocks:=({ Segments:=(([]:List TSegment)),Far:=(([]:List (List Int))) }:TClocks),Pairs:=(([]:List TPair)),Runners:=(([]:List TRunner)) }:TField),Runner:=0,Looks:=(([]:List TLook)) }:TQuestion),false)
def M66 (q_1:TQuestion) (x_2:TLook) (answer_3:TSpan):Option (TQuestion × Bool) :=
 (M56 q_1.Field.Runners).bind fun l_6 =>
 (idx l_6 x_2.Runner).bind fun x_7 =>
 (M63 answer_3 x_7 (((((x_7.Worlds).length:Int)) - 0:Int).toNat+1) 0 ((([]:List (List TOutcome))))).bind fun l_13 =>
 M64 q_1 x_2 l_6 x_7 l_13 M65 (((w64 ((((q_1.Field.Pairs).length:Int))+1)) - 0:Int).toNat+1) 0
def M67 (q_1:TQuestion) (look_2:Int) (answer_3:Int):Option (TQuestion × Int) :=
 (M55 q_1).bind fun r_6 =>
 bif r_6 != 0 then some (({ Field:=({ Clocks:=({ Segments:=(([]:List TSegment)),Far:=(([]:List (List Int))) }:TClocks),Pairs:=(([]:List TPair)),Runners:=(([]:List TRunner)) }:TField),Runner:=0,Looks:=(([]:List TLook)) }:TQuestion),r_6) else
 Option.bind (
  bif decide (look_2 < 0) then some true else
  bif decide (look_2≥(((q_1.Looks).length:Int))) then some true else
  bif decide (answer_3 < 0) then some true else
  (idx q_1.Looks look_2).bind fun x_14 =>
  some (decide (answer_3≥(((x_14.Answers).length:Int))))
 ) fun v_9 =>
 bif v_9 then some (({ Field:=({ Clocks:=({ Segments:=(([]:List TSegment)),Far:=(([]:List (List Int))) }:TClocks),Pairs:=(([]:List TPair)),Runners:=(([]:List TRunner)) }:TField),Runner:=0,Looks:=(([]:List TLook)) }:TQuestion),1) else
 (idx q_1.Looks look_2).bind fun x_16 =>
 (idx q_1.Looks look_2).bind fun x_17 =>
 (idx x_17.Answers answer_3).bind fun x_18 =>
 (M66 q_1 x_16 x_18).bind fun (r_19,r_20) =>
 bif !r_20 then some (({ Field:=({ Clocks:=({ Segments:=(([]:List TSegment)),Far:=(([]:List (List Int))) }:TClocks),Pairs:=(([]:List TPair)),Runners:=(([]:List TRunner)) }:TField),Runner:=0,Looks:=(([]:List TLook)) }:TQuestion),360) else
 some (r_19,0)
def M68 (f_1:TField) (runners_2:List Int) (k_11:Unit→Option (Int)):Nat→Int→Option (Int)
  | 0,_=>none
  | n_9+1,v_8 =>
    bif decide (v_8 < (((runners_2).length:Int))) then
     (idx runners_2 v_8).bind fun x_13 =>
     bif decide (x_13 < 0) then some 250 else
     bif decide (x_13≥(((f_1.Runners).length:Int))) then some 250 else
     (M68 f_1 runners_2 k_11 n_9) ((w64 (v_8+1)))
    else
    k_11 ()
def M69 (_:Unit):Option (Int) :=
 some 0
def M70 (f_1:TField) (runners_2:List Int):Option (Int) :=
 (M45 f_1).bind fun r_4 =>
 bif r_4 != 0 then some 240 else
 M68 f_1 runners_2 M69 (((((runners_2).length:Int)) - 0:Int).toNat+1) 0
def M71 (f_1:TField):Option (List TSegment × List (List Int) × List TPair × List TRunner) :=
 some (f_1.Clocks.Segments,f_1.Clocks.Far,f_1.Pairs,f_1.Runners)
def M72 (r_1:TRunner) (c_2:Int):Option (Bool) :=
 (idx r_1.Worlds c_2).bind fun x_4 =>
 some ((((x_4).length:Int)) == 0)
def M73 (s_1:List TRunner) (c_2:Int) (k_8:Unit→Option (Int)):Nat→Int→Option (Int)
  | 0,_=>none
  | n_6+1,v_5 =>
    bif decide (v_5 < (((s_1).length:Int))) then
     (idx s_1 v_5).bind fun x_10 =>
     (M72 x_10 c_2).bind fun r_11 =>
     bif r_11 then some v_5 else
     (M73 s_1 c_2 k_8 n_6) ((w64 (v_5+1)))
    else
    k_8 ()
def M74 (_:Unit):Option (Int) :=
 some (-1)
def M75 (s_1:List TRunner) (c_2:Int):Option (Int) :=
 M73 s_1 c_2 M74 (((((s_1).length:Int)) - 0:Int).toNat+1) 0
def M76 (s_1:List TRunner) (c_2:Int):Option (Bool) :=
 (M75 s_1 c_2).bind fun r_4 =>
 some (decide (r_4≥0))
def M77 (c_3:List TPair) (c_4:List TRunner) (k_9:Unit→Option (List Int)):Nat→Int→Option (List Int)
  | 0,_=>none
  | n_7+1,v_6 =>
    bif decide (v_6 < (w64 ((((c_3).length:Int))+1))) then
     (M76 c_4 v_6).bind fun r_11 =>
     bif !r_11 then
      Option.bind (
       (M77 c_3 c_4 k_9 n_7) ((w64 (v_6+1)))
      ) fun l=>some (v_6::l)
     else
     (M77 c_3 c_4 k_9 n_7) ((w64 (v_6+1)))
    else
    k_9 ()
def M78 (_:Unit):Option (List Int) :=
 some []
def M79 (c_1:List TSegment) (c_2:List (List Int)) (c_3:List TPair) (c_4:List TRunner):Option (List Int) :=
 M77 c_3 c_4 M78 (((w64 ((((c_3).length:Int))+1)) - 0:Int).toNat+1) 0
def M80 (x_1:TOutcome):Option (Bool) :=
 some x_1.Out
def M81 (s_1:List TOutcome) (k_7:Unit→Option (Int)):Nat→Int→Option (Int)
  | 0,_=>none
  | n_5+1,v_4 =>
    bif decide (v_4 < (((s_1).length:Int))) then
     (idx s_1 v_4).bind fun x_9 =>
     (M80 x_9).bind fun r_10 =>
     bif r_10 then some v_4 else
     (M81 s_1 k_7 n_5) ((w64 (v_4+1)))
    else
    k_7 ()
def M82 (_:Unit):Option (Int) :=
 some (-1)
def M83 (s_1:List TOutcome):Option (Int) :=
 M81 s_1 M82 (((((s_1).length:Int)) - 0:Int).toNat+1) 0
def M84 (s_1:List TOutcome):Option (Bool) :=
 (M83 s_1).bind fun r_3 =>
 some (decide (r_3≥0))
def M85:Option (Unit) :=
 some ()
def M86 (n_1:Int) (m_2:Int):Option (Bool) :=
 some (decide (n_1 < m_2))
def M87 (x_1:TOutcome):Option (Int) :=
 some x_1.Hi
def M88 (far_1:List (List Int)) (a_2:Int) (b_3:Int):Option (Int) :=
 (idx far_1 a_2).bind fun x_5 =>
 (idx x_5 b_3).bind fun x_6 =>
 some x_6
def M89 (x_1:TOutcome):Option (Int) :=
 some x_1.Lo
def M90 (s_1:List Int) (s_2:List Int) (k_8:Unit→Option (Int)):Nat→Int→Option (Int)
  | 0,_=>none
  | n_6+1,v_5 =>
    bif decide (v_5 < (((s_1).length:Int))) then
     (idx s_1 v_5).bind fun x_10 =>
     bif decide (v_5≥(((s_2).length:Int))) then some 1 else
     (idx s_2 v_5).bind fun x_12 =>
     (M3 x_10 x_12).bind fun r_13 =>
     bif r_13 != 0 then some r_13 else
     (M90 s_1 s_2 k_8 n_6) ((w64 (v_5+1)))
    else
    k_8 ()
def M91 (s_1:List Int) (s_2:List Int) (_:Unit):Option (Int) :=
 bif decide ((((s_1).length:Int)) < (((s_2).length:Int))) then some (-1) else
 some 0
def M92 (s_1:List Int) (s_2:List Int):Option (Int) :=
 M90 s_1 s_2 (M91 s_1 s_2) (((((s_1).length:Int)) - 0:Int).toNat+1) 0
def M93 (f_1:TField) (runner_2:Int) (x_3:TOutcome) (rival_4:Int) (y_5:TOutcome):Option (Bool) :=
 bif y_5.Out then some false else
 (M87 y_5).bind fun r_8 =>
 (M88 f_1.Clocks.Far ((w64 (x_3.Seg+1))) ((w64 (y_5.Seg+1)))).bind fun r_10 =>
 (M89 x_3).bind fun r_12 =>
 bif decide ((w64 ((w64 (r_8+r_10)) - r_12)) < 0) then some true else
 bif (w64 ((w64 (r_8+r_10)) - r_12)) == 0 then
  (idx f_1.Runners rival_4).bind fun x_16 =>
  (idx f_1.Runners runner_2).bind fun x_17 =>
  (M92 x_16.Keys x_17.Keys).bind fun r_18 =>
  some (decide (r_18 < 0))
 else
 some false
def M94 (f_1:TField) (runner_3:Int) (x_4:TOutcome) (rival_5:Int) (r_8:Bool) (x_11:List TOutcome) (k_16:Unit→Option (Int × Bool)):Nat→Int→Option (Int × Bool)
  | 0,_=>none
  | n_14+1,v_13 =>
    bif decide (v_13 < (((x_11).length:Int))) then
     (idx x_11 v_13).bind fun x_18 =>
     (M93 f_1 runner_3 x_4 rival_5 x_18).bind fun r_19 =>
     bif r_19 == r_8 then some (v_13,r_8) else
     (M94 f_1 runner_3 x_4 rival_5 r_8 x_11 k_16 n_14) ((w64 (v_13+1)))
    else
    k_16 ()
def M95 (r_8:Bool) (_:Unit):Option (Int × Bool) :=
 some (0,(!r_8))
def M96 (f_1:TField) (w_2:Int) (runner_3:Int) (x_4:TOutcome) (rival_5:Int):Option (Int × Bool) :=
 (M86 2 1).bind fun r_8 =>
 (idx f_1.Runners rival_5).bind fun x_10 =>
 (idx x_10.Worlds w_2).bind fun x_11 =>
 M94 f_1 runner_3 x_4 rival_5 r_8 x_11 (M95 r_8) (((((x_11).length:Int)) - 0:Int).toNat+1) 0
def M97 (f_1:TField) (runner_2:Int) (y_12:Int) (x_42:TOutcome):Nat→Int→Int→Option (Int)
  | 0,_,_=>none
  | n_48+1,n_46,v_47 =>
    bif decide (v_47 < (((f_1.Runners).length:Int))) then
     bif v_47 == runner_2 then (M97 f_1 runner_2 y_12 x_42 n_48) n_46 ((w64 (v_47+1))) else
     (M96 f_1 y_12 runner_2 x_42 v_47).bind fun (r_54,r_55) =>
     bif r_55 then (M97 f_1 runner_2 y_12 x_42 n_48) ((w64 (n_46+1))) ((w64 (v_47+1))) else
     (M97 f_1 runner_2 y_12 x_42 n_48) n_46 ((w64 (v_47+1)))
    else
    some n_46
def M98 (f_1:TField) (runner_2:Int) (y_12:Int) (x_23:List TOutcome):Nat→Int→Int→Int→Int→Bool→Option (Int × Int × Int × Bool)
  | 0,_,_,_,_,_=>none
  | n_34+1,v_29,v_30,v_31,v_32,v_33 =>
    bif decide (v_29 < (((x_23).length:Int))) then
     (idx x_23 v_29).bind fun x_42 =>
     bif x_42.Out then (M98 f_1 runner_2 y_12 x_23 n_34) ((w64 (v_29+1))) v_30 v_31 v_32 v_33 else
     (M97 f_1 runner_2 y_12 x_42 (((((f_1.Runners).length:Int)) - 0:Int).toNat+1) 1 0).bind fun n_49 =>
     Option.bind (
      bif !v_33 then some true else
      (M86 n_49 v_32).bind fun r_62 =>
      some r_62
     ) fun v_59 =>
     bif v_59 then (M98 f_1 runner_2 y_12 x_23 n_34) ((w64 (v_29+1))) y_12 v_29 n_49 true else
     (M98 f_1 runner_2 y_12 x_23 n_34) ((w64 (v_29+1))) v_30 v_31 v_32 v_33
    else
    some (v_30,v_31,v_32,v_33)
def M99 (f_1:TField) (runner_2:Int) (y:Int) (s:Int × Int × Int × Bool):Option (Int × Int × Int × Bool) :=
 match y,s with
 | y_12,(v_17,v_18,v_19,v_20) =>
  (idx f_1.Runners runner_2).bind fun x_22 =>
  (idx x_22.Worlds y_12).bind fun x_23 =>
  (M98 f_1 runner_2 y_12 x_23 (((((x_23).length:Int)) - 0:Int).toNat+1) 0 v_17 v_18 v_19 v_20).bind fun (v_35,v_36,v_37,v_38) =>
  some (v_35,v_36,v_37,v_38)
def M100 (f_1:TField) (runner_2:Int):Option (Tranks_place × Bool) :=
 (M71 f_1).bind fun (c_5,c_6,c_7,c_8) =>
 (M79 c_5 c_6 c_7 c_8).bind fun l_10 =>
 (foldO (M99 f_1 runner_2) l_10 (0,0,0,false)).bind fun (v_66,v_67,v_68,v_69) =>
 some (({ world:=v_66,outcome:=v_67,rank:=v_68 }:Tranks_place),v_69)
def M101:Option (Unit) :=
 some ()
def M102 (n_1:Int) (m_2:Int):Option (Bool) :=
 some (decide (n_1 > m_2))
def M103 (far_1:List (List Int)) (a_2:Int) (b_3:Int):Option (Int) :=
 (idx far_1 b_3).bind fun x_5 =>
 (idx x_5 a_2).bind fun x_6 =>
 some (w64 (0 - x_6))
def M104 (f_1:TField) (runner_2:Int) (x_3:TOutcome) (rival_4:Int) (y_5:TOutcome):Option (Bool) :=
 bif y_5.Out then some false else
 (M89 y_5).bind fun r_8 =>
 (M103 f_1.Clocks.Far ((w64 (x_3.Seg+1))) ((w64 (y_5.Seg+1)))).bind fun r_10 =>
 (M87 x_3).bind fun r_12 =>
 bif decide ((w64 ((w64 (r_8+r_10)) - r_12)) < 0) then some true else
 bif (w64 ((w64 (r_8+r_10)) - r_12)) == 0 then
  (idx f_1.Runners rival_4).bind fun x_16 =>
  (idx f_1.Runners runner_2).bind fun x_17 =>
  (M92 x_16.Keys x_17.Keys).bind fun r_18 =>
  some (decide (r_18 < 0))
 else
 some false
def M105 (f_1:TField) (runner_3:Int) (x_4:TOutcome) (rival_5:Int) (r_8:Bool) (x_11:List TOutcome) (k_16:Unit→Option (Int × Bool)):Nat→Int→Option (Int × Bool)
  | 0,_=>none
  | n_14+1,v_13 =>
    bif decide (v_13 < (((x_11).length:Int))) then
     (idx x_11 v_13).bind fun x_18 =>
     (M104 f_1 runner_3 x_4 rival_5 x_18).bind fun r_19 =>
     bif r_19 == r_8 then some (v_13,r_8) else
     (M105 f_1 runner_3 x_4 rival_5 r_8 x_11 k_16 n_14) ((w64 (v_13+1)))
    else
    k_16 ()
def M106 (r_8:Bool) (_:Unit):Option (Int × Bool) :=
 some (0,(!r_8))
def M107 (f_1:TField) (w_2:Int) (runner_3:Int) (x_4:TOutcome) (rival_5:Int):Option (Int × Bool) :=
 (M102 2 1).bind fun r_8 =>
 (idx f_1.Runners rival_5).bind fun x_10 =>
 (idx x_10.Worlds w_2).bind fun x_11 =>
 M105 f_1 runner_3 x_4 rival_5 r_8 x_11 (M106 r_8) (((((x_11).length:Int)) - 0:Int).toNat+1) 0
def M108 (f_1:TField) (runner_2:Int) (y_12:Int) (x_42:TOutcome):Nat→Int→Int→Option (Int)
  | 0,_,_=>none
  | n_48+1,n_46,v_47 =>
    bif decide (v_47 < (((f_1.Runners).length:Int))) then
     bif v_47 == runner_2 then (M108 f_1 runner_2 y_12 x_42 n_48) n_46 ((w64 (v_47+1))) else
     (M107 f_1 y_12 runner_2 x_42 v_47).bind fun (r_54,r_55) =>
     bif r_55 then (M108 f_1 runner_2 y_12 x_42 n_48) ((w64 (n_46+1))) ((w64 (v_47+1))) else
     (M108 f_1 runner_2 y_12 x_42 n_48) n_46 ((w64 (v_47+1)))
    else
    some n_46
def M109 (f_1:TField) (runner_2:Int) (y_12:Int) (x_23:List TOutcome):Nat→Int→Int→Int→Int→Bool→Option (Int × Int × Int × Bool)
  | 0,_,_,_,_,_=>none
  | n_34+1,v_29,v_30,v_31,v_32,v_33 =>
    bif decide (v_29 < (((x_23).length:Int))) then
     (idx x_23 v_29).bind fun x_42 =>
     bif x_42.Out then (M109 f_1 runner_2 y_12 x_23 n_34) ((w64 (v_29+1))) v_30 v_31 v_32 v_33 else
     (M108 f_1 runner_2 y_12 x_42 (((((f_1.Runners).length:Int)) - 0:Int).toNat+1) 1 0).bind fun n_49 =>
     Option.bind (
      bif !v_33 then some true else
      (M102 n_49 v_32).bind fun r_62 =>
      some r_62
     ) fun v_59 =>
     bif v_59 then (M109 f_1 runner_2 y_12 x_23 n_34) ((w64 (v_29+1))) y_12 v_29 n_49 true else
     (M109 f_1 runner_2 y_12 x_23 n_34) ((w64 (v_29+1))) v_30 v_31 v_32 v_33
    else
    some (v_30,v_31,v_32,v_33)
def M110 (f_1:TField) (runner_2:Int) (y:Int) (s:Int × Int × Int × Bool):Option (Int × Int × Int × Bool) :=
 match y,s with
 | y_12,(v_17,v_18,v_19,v_20) =>
  (idx f_1.Runners runner_2).bind fun x_22 =>
  (idx x_22.Worlds y_12).bind fun x_23 =>
  (M109 f_1 runner_2 y_12 x_23 (((((x_23).length:Int)) - 0:Int).toNat+1) 0 v_17 v_18 v_19 v_20).bind fun (v_35,v_36,v_37,v_38) =>
  some (v_35,v_36,v_37,v_38)
def M111 (f_1:TField) (runner_2:Int):Option (Tranks_place × Bool) :=
 (M71 f_1).bind fun (c_5,c_6,c_7,c_8) =>
 (M79 c_5 c_6 c_7 c_8).bind fun l_10 =>
 (foldO (M110 f_1 runner_2) l_10 (0,0,0,false)).bind fun (v_66,v_67,v_68,v_69) =>
 some (({ world:=v_66,outcome:=v_67,rank:=v_68 }:Tranks_place),v_69)
def M112 (f_1:TField) (runner_2:Int) (y:Int) (s:Bool):Option (Bool) :=
 match y,s with
 | y_12,v_14 =>
  bif v_14 then some true else
  (idx f_1.Runners runner_2).bind fun x_17 =>
  (idx x_17.Worlds y_12).bind fun x_18 =>
  (M84 x_18).bind fun r_19 =>
  some r_19
def M113 (f_1:TField) (runner_2:Int):Option (TRank) :=
 (idx f_1.Runners runner_2).bind fun x_4 =>
 (M71 f_1).bind fun (c_5,c_6,c_7,c_8) =>
 (M79 c_5 c_6 c_7 c_8).bind fun l_10 =>
 (foldO (M112 f_1 runner_2) l_10 (false)).bind fun v_21 =>
 (M85).bind fun _ =>
 (M100 f_1 runner_2).bind fun (r_23,r_24) =>
 bif !r_24 then some ({ Bib:=x_4.Bib,Kind:=3,Lo:=0,Hi:=0,Out:=v_21 }:TRank) else
 (M101).bind fun _ =>
 (M111 f_1 runner_2).bind fun (r_28,r_29) =>
 bif r_23.rank == r_28.rank then
  bif !v_21 then some ({ Bib:=x_4.Bib,Kind:=1,Lo:=r_23.rank,Hi:=r_28.rank,Out:=v_21 }:TRank) else
  some ({ Bib:=x_4.Bib,Kind:=2,Lo:=r_23.rank,Hi:=r_28.rank,Out:=v_21 }:TRank)
 else
 some ({ Bib:=x_4.Bib,Kind:=2,Lo:=r_23.rank,Hi:=r_28.rank,Out:=v_21 }:TRank)
def M114 (f_1:TField) (runner_2:Int):Option (TRank × Int) :=
 (M70 f_1 ((([runner_2]:List Int)))).bind fun r_5 =>
 bif r_5 != 0 then some (({ Bib:=0,Kind:=0,Lo:=0,Hi:=0,Out:=false }:TRank),r_5) else
 (M113 f_1 runner_2).bind fun r_8 =>
 some (r_8,0)
def M115 (q_1:TQuestion):Option (Int) :=
 (M114 q_1.Field q_1.Runner).bind fun (r_3,r_4) =>
 bif r_3.Kind != 2 then some 0 else
 bif r_3.Out then some (w64 ((w64 (r_3.Hi - r_3.Lo))+1)) else
 some (w64 (r_3.Hi - r_3.Lo))
def M116:Option (TPlan) :=
 some ({ Look:=(-1),After:=(([]:List TPlan0)) }:TPlan)
def M117 (q_1:TQuestion) (look_2:Int):Option (List TSegment × List (List Int) × List TPair × List TRunner × Int × List TLook × Int) :=
 some (q_1.Field.Clocks.Segments,q_1.Field.Clocks.Far,q_1.Field.Pairs,q_1.Field.Runners,q_1.Runner,q_1.Looks,look_2)
def M118 (c_1:List TSegment) (c_2:List (List Int)) (c_3:List TPair) (c_4:List TRunner) (c_5:Int) (c_6:List TLook) (c_7:Int) (x_8:TLook) (k_13:Unit→Option (List (Int × TQuestion))):Nat→Int→Option (List (Int × TQuestion))
  | 0,_=>none
  | n_11+1,v_10 =>
    bif decide (v_10 < (((x_8.Answers).length:Int))) then
     (idx x_8.Answers v_10).bind fun x_15 =>
     (idx c_6 c_7).bind fun x_16 =>
     (M66 (({ Field:=({ Clocks:=({ Segments:=c_1,Far:=c_2 }:TClocks),Pairs:=c_3,Runners:=c_4 }:TField),Runner:=c_5,Looks:=c_6 }:TQuestion)) x_16 x_15).bind fun (r_17,r_18) =>
     bif r_18 then
      Option.bind (
       (M118 c_1 c_2 c_3 c_4 c_5 c_6 c_7 x_8 k_13 n_11) ((w64 (v_10+1)))
      ) fun l=>some ((v_10,r_17)::l)
     else
     (M118 c_1 c_2 c_3 c_4 c_5 c_6 c_7 x_8 k_13 n_11) ((w64 (v_10+1)))
    else
    k_13 ()
def M119 (_:Unit):Option (List (Int × TQuestion)) :=
 some []
def M120 (c_1:List TSegment) (c_2:List (List Int)) (c_3:List TPair) (c_4:List TRunner) (c_5:Int) (c_6:List TLook) (c_7:Int):Option (List (Int × TQuestion)) :=
 (idx c_6 c_7).bind fun x_8 =>
 M118 c_1 c_2 c_3 c_4 c_5 c_6 c_7 x_8 M119 (((((x_8.Answers).length:Int)) - 0:Int).toNat+1) 0
def M121 (x_30:TLook):Nat→Int→(List TPlan0)→Option (List TPlan0)
  | 0,_,_=>none
  | n_35+1,v_33,l_34 =>
    bif decide (v_33 < (((x_30.Answers).length:Int))) then
     (M116).bind fun r_40 =>
     (app 32 l_34 (([(pTPlan r_40)]:List TPlan0))).bind fun l_42 =>
     (M121 x_30 n_35) ((w64 (v_33+1))) l_42
    else
    some l_34
def M122 (left_2:Int) (v_18:Int) (rc_9031:TQuestion→Int→Int→(List Bool)→Option (Option (TPlan × Bool × Int × List Bool))) (y:Int × TQuestion) (s:Int × List Bool × List TPlan0):Option (Option ((Int × List Bool × List TPlan0) ⊕ (Int × List Bool × List TPlan0))) :=
  match y,s with
  | (y_55,y_56),(v_60,l_61,l_62) =>
    (rc_9031 y_56 ((w64 (left_2 - 1))) v_60 l_61).bind fun q=>onP q (
     some none
    ) fun (r_67,r_68,b_69,l_70) =>
    (lenIs l_70 l_61).bind fun _ =>
    bif !r_68 then
     (idx l_70 v_18).bind fun x_75 =>
     some (some (.inr (b_69,(List.set l_70 (Int.toNat v_18) false),l_62)))
    else
    (idx l_62 y_55).bind fun x_76 =>
    some (some (.inl (b_69,l_70,(List.set l_62 (Int.toNat y_55) (pTPlan r_67)))))
def M123 (q_1:TQuestion) (left_2:Int) (rc_9031:TQuestion→Int→Int→(List Bool)→Option (Option (TPlan × Bool × Int × List Bool))) (k_25:Int→(List Bool)→Option (Option (TPlan × Bool × Int × List Bool))):Nat→Int→Int→(List Bool)→Option (Option (TPlan × Bool × Int × List Bool))
  | 0,_,_,_=>none
  | n_21+1,v_18,v_19,l_20 =>
    bif decide (v_18 < (((q_1.Looks).length:Int))) then
     (idx l_20 v_18).bind fun x_27 =>
     bif x_27 then (M123 q_1 left_2 rc_9031 k_25 n_21) ((w64 (v_18+1))) v_19 l_20 else
     bif left_2 == 0 then (M123 q_1 left_2 rc_9031 k_25 n_21) ((w64 (v_18+1))) v_19 l_20 else
     (idx q_1.Looks v_18).bind fun x_30 =>
     (M121 x_30 (((((x_30.Answers).length:Int)) - 0:Int).toNat+1) 0 ((([]:List TPlan0)))).bind fun l_36 =>
     (idx l_20 v_18).bind fun x_44 =>
     (M117 q_1 v_18).bind fun (c_45,c_46,c_47,c_48,c_49,c_50,c_51) =>
     (M120 c_45 c_46 c_47 c_48 c_49 c_50 c_51).bind fun l_53 =>
     (foldP (M122 left_2 v_18 rc_9031) l_53 (v_19,(List.set l_20 (Int.toNat v_18) true),l_36)).bind fun q=>match q with
     | none =>
      some none
     | some (.inl (v_77,l_78,l_79)) =>
      (idx l_78 v_18).bind fun x_80 =>
      some (some (({ Look:=v_18,After:=l_79 }:TPlan),true,v_77,(List.set l_78 (Int.toNat v_18) false)))
     | some (.inr (v_82,l_83,l_84)) =>
      (M123 q_1 left_2 rc_9031 k_25 n_21) ((w64 (v_18+1))) v_82 l_83
    else
    k_25 v_19 l_20
def M124 (v_22:Int) (l_23:List Bool):Option (Option (TPlan × Bool × Int × List Bool)) :=
 some (some (({ Look:=0,After:=(([]:List TPlan0)) }:TPlan),false,v_22,l_23))
def M125 (rc_9031:TQuestion→Int→Int→(List Bool)→Option (Option (TPlan × Bool × Int × List Bool))) (q_1:TQuestion) (left_2:Int) (v_3:Int) (l_4:List Bool):Option (Option (TPlan × Bool × Int × List Bool)) :=
 bif v_3 == 0 then some none else
 (M115 q_1).bind fun r_10 =>
 bif r_10 == 0 then
  (M116).bind fun r_13 =>
  some (some (r_13,true,(w64 (v_3 - 1)),l_4))
 else
 M123 q_1 left_2 rc_9031 M124 (((((q_1.Looks).length:Int)) - 0:Int).toNat+1) 0 ((w64 (v_3 - 1))) l_4
def M126:Nat→TQuestion→Int→Int→(List Bool)→Option (Option (TPlan × Bool × Int × List Bool))
 | 0=>fun _ _ _ _=>none
 | n+1=>M125 (M126 n)
def M127 (q_1:TQuestion) (k_21:Int→Option (TPlan × Int × Int)):Nat→Int→Int→(List Bool)→Option (TPlan × Int × Int)
  | 0,_,_,_=>none
  | n_18+1,v_15,v_16,l_17 =>
    bif decide (v_15 < (w64 ((minG 6 (((q_1.Looks).length:Int)))+1))) then
     (M126 1000 q_1 v_15 v_16 l_17).bind fun q=>onP q (
      some (({ Look:=0,After:=(([]:List TPlan0)) }:TPlan),0,3)
     ) fun (r_23,r_24,b_25,l_26) =>
     (lenIs l_26 l_17).bind fun _ =>
     bif r_24 then some (r_23,v_15,0) else
     (M127 q_1 k_21 n_18) ((w64 (v_15+1))) b_25 l_26
    else
    k_21 v_16
def M128 (v_19:Int):Option (TPlan × Int × Int) :=
 some (({ Look:=0,After:=(([]:List TPlan0)) }:TPlan),0,361)
def M129 (q_1:TQuestion) (budget_2:Int):Option (TPlan × Int × Int) :=
 (M55 q_1).bind fun r_6 =>
 bif r_6 != 0 then some (({ Look:=0,After:=(([]:List TPlan0)) }:TPlan),0,r_6) else
 bif decide (budget_2 < 0) then some (({ Look:=0,After:=(([]:List TPlan0)) }:TPlan),0,1) else
 bif decide (budget_2 > 1073741824) then some (({ Look:=0,After:=(([]:List TPlan0)) }:TPlan),0,1) else
 (mkN 1 (((q_1.Looks).length:Int))).bind fun n_11 =>
 M127 q_1 M128 (((w64 ((minG 6 (((q_1.Looks).length:Int)))+1)) - 0:Int).toNat+1) 0 budget_2 (List.replicate n_11 false)
def M130 (y:Int × TQuestion) (s:Int):Option (Int) :=
 match y,s with
 | (y_37,y_38),v_40 =>
  (M115 y_38).bind fun r_42 =>
  some (maxG v_40 r_42)
def M131 (q_1:TQuestion) (l_3:List Bool):Nat→Int→Int→Int→Option (Int)
  | 0,_,_,_=>none
  | n_17+1,best_14,least_15,v_16 =>
    bif decide (v_16 < (((q_1.Looks).length:Int))) then
     Option.bind (
      (idx l_3 v_16).bind fun x_25 =>
      bif x_25 then some (best_14,least_15) else
      (M117 q_1 v_16).bind fun (c_27,c_28,c_29,c_30,c_31,c_32,c_33) =>
      (M120 c_27 c_28 c_29 c_30 c_31 c_32 c_33).bind fun l_35 =>
      (foldO M130 l_35 (0)).bind fun v_44 =>
      bif decide (best_14 < 0) then some (v_16,v_44) else
      bif decide (v_44 < least_15) then some (v_16,v_44) else
      some (best_14,least_15)
     ) fun (best_22,least_23) =>
     (M131 q_1 l_3 n_17) best_22 least_23 ((w64 (v_16+1)))
    else
    some best_14
def M132 (x_51:TLook):Nat→Int→(List TPlan0)→Option (List TPlan0)
  | 0,_,_=>none
  | n_56+1,v_54,l_55 =>
    bif decide (v_54 < (((x_51.Answers).length:Int))) then
     (M116).bind fun r_61 =>
     (app 32 l_55 (([(pTPlan r_61)]:List TPlan0))).bind fun l_63 =>
     (M132 x_51 n_56) ((w64 (v_54+1))) l_63
    else
    some l_55
def M133 (left_2:Int) (rc_9061:TQuestion→Int→(List Bool)→Option (Option (TPlan × List Bool))) (y:Int × TQuestion) (s:List Bool × List TPlan0):Option (Option ((List Bool × List TPlan0) ⊕ Empty)) :=
  match y,s with
  | (y_76,y_77),(l_80,l_81) =>
    (rc_9061 y_77 ((w64 (left_2 - 1))) l_80).bind fun q=>onP q (
     some none
    ) fun (r_83,l_84) =>
    (lenIs l_84 l_80).bind fun _ =>
    (idx l_81 y_76).bind fun x_88 =>
    some (some (.inl (l_84,(List.set l_81 (Int.toNat y_76) (pTPlan r_83)))))
def M134 (rc_9061:TQuestion→Int→(List Bool)→Option (Option (TPlan × List Bool))) (q_1:TQuestion) (left_2:Int) (l_3:List Bool):Option (Option (TPlan × List Bool)) :=
 (M115 q_1).bind fun r_6 =>
 bif r_6 == 0 then
  (M116).bind fun r_9 =>
  some (some (r_9,l_3))
 else
 (M131 q_1 l_3 (((((q_1.Looks).length:Int)) - 0:Int).toNat+1) (-1) 0 0).bind fun best_18 =>
 bif decide (best_18 < 0) then some none else
 bif left_2 == 0 then some none else
 (idx q_1.Looks best_18).bind fun x_51 =>
 (M132 x_51 (((((x_51.Answers).length:Int)) - 0:Int).toNat+1) 0 ((([]:List TPlan0)))).bind fun l_57 =>
 (idx l_3 best_18).bind fun x_65 =>
 (M117 q_1 best_18).bind fun (c_66,c_67,c_68,c_69,c_70,c_71,c_72) =>
 (M120 c_66 c_67 c_68 c_69 c_70 c_71 c_72).bind fun l_74 =>
 (foldP (M133 left_2 rc_9061) l_74 ((List.set l_3 (Int.toNat best_18) true),l_57)).bind fun q=>match q with
 | none =>
  some none
 | some (.inl (l_89,l_90)) =>
  (idx l_89 best_18).bind fun x_91 =>
  some (some (({ Look:=best_18,After:=l_90 }:TPlan),(List.set l_89 (Int.toNat best_18) false)))
 | some (.inr e)=>e.elim
def M135:Nat→TQuestion→Int→(List Bool)→Option (Option (TPlan × List Bool))
 | 0=>fun _ _ _=>none
 | n+1=>M134 (M135 n)
def M136 (q_1:TQuestion):Option (TPlan × Int) :=
 (M55 q_1).bind fun r_4 =>
 bif r_4 != 0 then some (({ Look:=0,After:=(([]:List TPlan0)) }:TPlan),r_4) else
 (mkN 1 (((q_1.Looks).length:Int))).bind fun n_7 =>
 (M135 1000 q_1 6 (List.replicate n_7 false)).bind fun q=>onP q (
  some (({ Look:=0,After:=(([]:List TPlan0)) }:TPlan),361)
 ) fun (r_8,l_9) =>
 (lenIs l_9 (List.replicate n_7 false)).bind fun _ =>
 some (r_8,0)
def M137 (a_1:TPlan) (b_2:TPlan) (rc_9062:TPlan→TPlan→Option (Bool)) (k_10:Unit→Option (Bool)):Nat→Int→Option (Bool)
  | 0,_=>none
  | n_8+1,i_7 =>
    bif decide (i_7 < (((a_1.After).length:Int))) then
     (idx a_1.After i_7).bind fun x_12 =>
     (uTPlan x_12).bind fun p_13 =>
     (idx b_2.After i_7).bind fun x_14 =>
     (uTPlan x_14).bind fun p_15 =>
     (rc_9062 p_13 p_15).bind fun r_16 =>
     bif !r_16 then some false else
     (M137 a_1 b_2 rc_9062 k_10 n_8) ((w64 (i_7+1)))
    else
    k_10 ()
def M138 (_:Unit):Option (Bool) :=
 some true
def M139 (rc_9062:TPlan→TPlan→Option (Bool)) (a_1:TPlan) (b_2:TPlan):Option (Bool) :=
 bif a_1.Look != b_2.Look then some false else
 bif (((a_1.After).length:Int)) != (((b_2.After).length:Int)) then some false else
 M137 a_1 b_2 rc_9062 M138 (((((a_1.After).length:Int)) - 0:Int).toNat+1) 0
def M140:Nat→TPlan→TPlan→Option (Bool)
 | 0=>fun _ _=>none
 | n+1=>M139 (M140 n)
def M141:Option (Bool) :=
 (M0).bind fun r_2 =>
 (M67 r_2 1 1).bind fun (r_4,r_5) =>
 (M67 r_2 1 0).bind fun (r_7,r_8) =>
 (M67 r_2 1 3).bind fun (r_10,r_11) =>
 (M129 r_2 100).bind fun (r_13,r_14,r_15) =>
 (M136 r_2).bind fun (r_17,r_18) =>
 (M129 (({ Field:=r_2.Field,Runner:=r_2.Runner,Looks:=(([]:List TLook)) }:TQuestion)) 9).bind fun (r_20,r_21,r_22) =>
 (M129 r_2 0).bind fun (r_24,r_25,r_26) =>
 (M129 r_4 1).bind fun (r_28,r_29,r_30) =>
 Option.bind (
  (M55 r_2).bind fun r_34 =>
  bif r_34 == 0 then
   (M55 (({ Field:=({ Clocks:=({ Segments:=(([]:List TSegment)),Far:=(([]:List (List Int))) }:TClocks),Pairs:=(([]:List TPair)),Runners:=(([]:List TRunner)) }:TField),Runner:=0,Looks:=(([]:List TLook)) }:TQuestion))).bind fun r_37 =>
   bif r_37 == 360 then
    bif r_5 == 0 then
     bif (((r_4.Field.Runners).length:Int)) == 2 then
      (idx r_4.Field.Runners 0).bind fun x_42 =>
      bif (((x_42.Worlds).length:Int)) == 1 then
       (idx r_4.Field.Runners 0).bind fun x_44 =>
       (idx x_44.Worlds 0).bind fun x_45 =>
       bif (((x_45).length:Int)) == 1 then
        (idx r_4.Field.Runners 0).bind fun x_47 =>
        (idx x_47.Worlds 0).bind fun x_48 =>
        (idx x_48 0).bind fun x_49 =>
        bif (x_49.Out == false) && ((x_49.Seg == (-1)) && ((x_49.Lo == 8) && ((x_49.Hi == 10) && true))) then
         bif r_8 == 360 then
          bif r_11 == 1 then
           bif r_15 == 0 then
            bif r_14 == 1 then
             (M140 1000 r_13 (({ Look:=1,After:=(([(pTPlan ({ Look:=(-1),After:=(([]:List TPlan0)) }:TPlan)),(pTPlan ({ Look:=(-1),After:=(([]:List TPlan0)) }:TPlan)),(pTPlan ({ Look:=(-1),After:=(([]:List TPlan0)) }:TPlan))]:List TPlan0)) }:TPlan))).bind fun r_55 =>
             bif r_55 then
              bif r_18 == 0 then
               (M140 1000 r_17 (({ Look:=1,After:=(([(pTPlan ({ Look:=(-1),After:=(([]:List TPlan0)) }:TPlan)),(pTPlan ({ Look:=(-1),After:=(([]:List TPlan0)) }:TPlan)),(pTPlan ({ Look:=(-1),After:=(([]:List TPlan0)) }:TPlan))]:List TPlan0)) }:TPlan))).bind fun r_59 =>
               bif r_59 then
                bif r_22 == 361 then
                 bif r_26 == 3 then
                  bif r_30 == 0 then
                   bif r_29 == 0 then some (r_28.Look == (-1)) else
                   some false
                  else
                  some false
                 else
                 some false
                else
                some false
               else
               some false
              else
              some false
             else
             some false
            else
            some false
           else
           some false
          else
          some false
         else
         some false
        else
        some false
       else
       some false
      else
      some false
     else
     some false
    else
    some false
   else
   some false
  else
  some false
 ) fun v_32 =>
 some v_32
def M142 (k_1:TClocks) (k_9:Unit→Option (Bool)):Nat→Int→Option (Bool)
  | 0,_=>none
  | n_7+1,i_6 =>
    bif decide (i_6 < (((k_1.Far).length:Int))) then
     (idx k_1.Far i_6).bind fun x_11 =>
     bif decide ((((x_11).length:Int)) > 12) then some false else
     (M142 k_1 k_9 n_7) ((w64 (i_6+1)))
    else
    k_9 ()
def M143 (_:Unit):Option (Bool) :=
 some true
def M144 (k_1:TClocks):Option (Bool) :=
 bif decide ((((k_1.Segments).length:Int)) > 8) then some false else
 bif decide ((((k_1.Far).length:Int)) > 10) then some false else
 M142 k_1 M143 (((((k_1.Far).length:Int)) - 0:Int).toNat+1) 0
def M145 (x_17:TRunner):Nat→Int→Int→Option (Int)
  | 0,_,_=>none
  | n_24+1,n_22,w_23 =>
    bif decide (w_23 < (((x_17.Worlds).length:Int))) then
     (idx x_17.Worlds w_23).bind fun x_29 =>
     (M145 x_17 n_24) ((w64 (n_22+(((x_29).length:Int))))) ((w64 (w_23+1)))
    else
    some n_22
def M146 (f_1:TField) (k_15:Int→Option (Bool)):Nat→Int→Int→Option (Bool)
  | 0,_,_=>none
  | n_12+1,n_10,i_11 =>
    bif decide (i_11 < (((f_1.Runners).length:Int))) then
     (idx f_1.Runners i_11).bind fun x_17 =>
     bif decide ((((x_17.Keys).length:Int)) > 8) then some false else
     bif decide ((((x_17.Worlds).length:Int)) > 5) then some false else
     (M145 x_17 (((((x_17.Worlds).length:Int)) - 0:Int).toNat+1) n_10 0).bind fun n_25 =>
     (M146 f_1 k_15 n_12) n_25 ((w64 (i_11+1)))
    else
    k_15 n_10
def M147 (n_13:Int):Option (Bool) :=
 some (decide (n_13≤60))
def M148 (f_1:TField):Option (Bool) :=
 bif decide ((((f_1.Runners).length:Int)) > 6) then some false else
 bif decide ((((f_1.Pairs).length:Int)) > 3) then some false else
 (M144 f_1.Clocks).bind fun r_5 =>
 bif !r_5 then some false else
 M146 f_1 M147 (((((f_1.Runners).length:Int)) - 0:Int).toNat+1) 0 0
def M149 (q_1:TQuestion) (k_7:Unit→Option (Bool)):Nat→Int→Option (Bool)
  | 0,_=>none
  | n_5+1,i_4 =>
    bif decide (i_4 < (((q_1.Looks).length:Int))) then
     (idx q_1.Looks i_4).bind fun x_9 =>
     bif decide ((((x_9.Answers).length:Int)) > 5) then some false else
     (M149 q_1 k_7 n_5) ((w64 (i_4+1)))
    else
    k_7 ()
def M150 (q_1:TQuestion) (_:Unit):Option (Bool) :=
 (M148 q_1.Field).bind fun r_11 =>
 bif r_11 then some (decide ((((q_1.Looks).length:Int))≤4)) else
 some false
def M151 (q_1:TQuestion):Option (Bool) :=
 M149 q_1 (M150 q_1) (((((q_1.Looks).length:Int)) - 0:Int).toNat+1) 0
def M152 (n_1:Int):Option (Bool) :=
 bif decide (n_1≥(-1099511627776)) then some (decide (n_1≤1099511627776)) else
 some false
def M153 (a_1:TSegment) (b_2:TSegment):Option (Bool) :=
 bif decide (a_1.Mat < b_2.Mat) then some true else
 bif a_1.Mat == b_2.Mat then some (decide (a_1.Epoch < b_2.Epoch)) else
 some false
def M154 (k_1:TClocks) (k_9:Unit→Option (Int)):Nat→Int→Option (Int)
  | 0,_=>none
  | n_7+1,i_6 =>
    bif decide (i_6 < (((k_1.Segments).length:Int))) then
     (idx k_1.Segments i_6).bind fun x_11 =>
     Option.bind (
      bif decide (x_11.Mat < 0) then some true else
      bif decide (x_11.Mat≥40) then some true else
      bif decide (x_11.Epoch < 0) then some true else
      bif decide (x_11.Epoch > 255) then some true else
      (M152 x_11.Anchor).bind fun r_18 =>
      bif !r_18 then some true else
      bif decide (i_6 > 0) then
       (idx k_1.Segments (w64 (i_6 - 1))).bind fun x_22 =>
       (M153 x_22 x_11).bind fun r_23 =>
       some (!r_23)
      else
      some false
     ) fun v_12 =>
     bif v_12 then some 160 else
     (M154 k_1 k_9 n_7) ((w64 (i_6+1)))
    else
    k_9 ()
def M155 (k_1:TClocks) (i_27:Int) (k_41:Unit→Option (Int)):Nat→Int→Option (Int)
  | 0,_=>none
  | n_39+1,j_38 =>
    bif decide (j_38≤(((k_1.Segments).length:Int))) then
     (idx k_1.Far i_27).bind fun x_43 =>
     (idx x_43 j_38).bind fun x_44 =>
     bif decide (x_44 < (-2199023255552)) then some 160 else
     (idx k_1.Far i_27).bind fun x_46 =>
     (idx x_46 j_38).bind fun x_47 =>
     bif decide (x_47 > 2199023255552) then some 160 else
     (M155 k_1 i_27 k_41 n_39) ((w64 (j_38+1)))
    else
    k_41 ()
def M156 (i_27:Int) (nx_29:Int→Option (Int)) (_:Unit):Option (Int) :=
 nx_29 ((w64 (i_27+1)))
def M157 (k_1:TClocks) (k_30:Unit→Option (Int)):Nat→Int→Option (Int)
  | 0,_=>none
  | n_28+1,i_27 =>
    bif decide (i_27≤(((k_1.Segments).length:Int))) then
     (idx k_1.Far i_27).bind fun x_32 =>
     bif (((x_32).length:Int)) != (w64 ((((k_1.Segments).length:Int))+1)) then some 160 else
     (idx k_1.Far i_27).bind fun x_34 =>
     (idx x_34 i_27).bind fun x_35 =>
     bif x_35 != 0 then some 160 else
     M155 k_1 i_27 (M156 i_27 (M157 k_1 k_30 n_28)) (((((k_1.Segments).length:Int))+1 - 0:Int).toNat+1) 0
    else
    k_30 ()
def M158 (k_1:TClocks) (i_50:Int) (j_56:Int) (k_65:Unit→Option (Int)):Nat→Int→Option (Int)
  | 0,_=>none
  | n_63+1,m_62 =>
    bif decide (m_62≤(((k_1.Segments).length:Int))) then
     (idx k_1.Far i_50).bind fun x_67 =>
     (idx x_67 m_62).bind fun x_68 =>
     (idx k_1.Far i_50).bind fun x_69 =>
     (idx x_69 j_56).bind fun x_70 =>
     (idx k_1.Far j_56).bind fun x_71 =>
     (idx x_71 m_62).bind fun x_72 =>
     bif decide (x_68 > (w64 (x_70+x_72))) then some 160 else
     (M158 k_1 i_50 j_56 k_65 n_63) ((w64 (m_62+1)))
    else
    k_65 ()
def M159 (j_56:Int) (nx_58:Int→Option (Int)) (_:Unit):Option (Int) :=
 nx_58 ((w64 (j_56+1)))
def M160 (k_1:TClocks) (i_50:Int) (k_59:Unit→Option (Int)):Nat→Int→Option (Int)
 | 0,_=>none
 | n_57+1,j_56 =>
  bif decide (j_56≤(((k_1.Segments).length:Int))) then M158 k_1 i_50 j_56 (M159 j_56 (M160 k_1 i_50 k_59 n_57)) (((((k_1.Segments).length:Int))+1 - 0:Int).toNat+1) 0 else
  k_59 ()
def M161 (i_50:Int) (nx_52:Int→Option (Int)) (_:Unit):Option (Int) :=
 nx_52 ((w64 (i_50+1)))
def M162 (k_1:TClocks) (k_53:Unit→Option (Int)):Nat→Int→Option (Int)
 | 0,_=>none
 | n_51+1,i_50 =>
  bif decide (i_50≤(((k_1.Segments).length:Int))) then M160 k_1 i_50 (M161 i_50 (M162 k_1 k_53 n_51)) (((((k_1.Segments).length:Int))+1 - 0:Int).toNat+1) 0 else
  k_53 ()
def M163 (_:Unit):Option (Int) :=
 some 0
def M164 (k_1:TClocks) (_:Unit):Option (Int) :=
 M162 k_1 M163 (((((k_1.Segments).length:Int))+1 - 0:Int).toNat+1) 0
def M165 (k_1:TClocks) (_:Unit):Option (Int) :=
 M157 k_1 (M164 k_1) (((((k_1.Segments).length:Int))+1 - 0:Int).toNat+1) 0
def M166 (k_1:TClocks):Option (Int) :=
 bif decide ((((k_1.Segments).length:Int)) > 511) then some 160 else
 bif (((k_1.Far).length:Int)) != (w64 ((((k_1.Segments).length:Int))+1)) then some 160 else
 M154 k_1 (M165 k_1) (((((k_1.Segments).length:Int)) - 0:Int).toNat+1) 0
def M167 (n_1:Int) (least_2:Int) (most_3:Int):Option (Bool) :=
 bif decide (n_1≥least_2) then some (decide (n_1≤most_3)) else
 some false
def M168 (n_1:Int):Option (Bool) :=
 (M167 n_1 1 9999).bind fun r_3 =>
 some r_3
def M169 (k_1:TClocks) (x_2:TOutcome):Option (Int) :=
 (M166 k_1).bind fun r_4 =>
 bif r_4 != 0 then some r_4 else
 bif bif x_2.Out then ((x_2.Seg != (-1)) || ((x_2.Lo != 0) || (x_2.Hi != 0))) else ((decide (x_2.Seg < (-1))) || ((decide (x_2.Seg≥(((k_1.Segments).length:Int)))) || ((decide (x_2.Lo < (-288230376151711744))) || ((decide (x_2.Lo > x_2.Hi)) || (decide (x_2.Hi > 288230376151711744)))))) then some 230 else
 some 0
def M170 (f_1:TField) (world_2:Int) (k_8:Unit→Option (Bool)):Nat→Int→Option (Bool)
  | 0,_=>none
  | n_6+1,i_5 =>
    bif decide (i_5 < (((f_1.Runners).length:Int))) then
     bif decide (world_2 < 0) then some false else
     (idx f_1.Runners i_5).bind fun x_11 =>
     bif decide (world_2≥(((x_11.Worlds).length:Int))) then some false else
     (idx f_1.Runners i_5).bind fun x_13 =>
     (idx x_13.Worlds world_2).bind fun x_14 =>
     bif (((x_14).length:Int)) == 0 then some false else
     (M170 f_1 world_2 k_8 n_6) ((w64 (i_5+1)))
    else
    k_8 ()
def M171 (_:Unit):Option (Bool) :=
 some true
def M172 (f_1:TField) (world_2:Int):Option (Bool) :=
 M170 f_1 world_2 M171 (((((f_1.Runners).length:Int)) - 0:Int).toNat+1) 0
def M173 (f_1:TField) (k_7:Unit→Option (Bool)):Nat→Int→Option (Bool)
  | 0,_=>none
  | n_5+1,w_4 =>
    bif decide (w_4≤(((f_1.Pairs).length:Int))) then
     (M172 f_1 w_4).bind fun r_9 =>
     bif r_9 then some true else
     (M173 f_1 k_7 n_5) ((w64 (w_4+1)))
    else
    k_7 ()
def M174 (_:Unit):Option (Bool) :=
 some false
def M175 (f_1:TField):Option (Bool) :=
 M173 f_1 M174 (((((f_1.Pairs).length:Int))+1 - 0:Int).toNat+1) 0
def M176 (f_1:TField) (k_15:Unit→Option (Int)):Nat→Int→Option (Int)
  | 0,_=>none
  | n_13+1,i_12 =>
    bif decide (i_12 < (((f_1.Pairs).length:Int))) then
     (idx f_1.Pairs i_12).bind fun x_17 =>
     bif decide (x_17.A < 1) then some 240 else
     bif decide (x_17.A≥x_17.B) then some 240 else
     bif decide (x_17.B > 9999) then some 240 else
     Option.bind (
      bif decide (i_12 > 0) then
       (idx f_1.Pairs (w64 (i_12 - 1))).bind fun x_24 =>
       bif decide (x_24.A > x_17.A) then some true else
       (idx f_1.Pairs (w64 (i_12 - 1))).bind fun x_26 =>
       bif x_26.A == x_17.A then
        (idx f_1.Pairs (w64 (i_12 - 1))).bind fun x_28 =>
        some (decide (x_28.B≥x_17.B))
       else
       some false
      else
      some false
     ) fun v_21 =>
     bif v_21 then some 240 else
     (M176 f_1 k_15 n_13) ((w64 (i_12+1)))
    else
    k_15 ()
def M177 (f_1:TField) (x_36:TRunner) (w_51:Int) (k_60:Unit→Option (Int)):Nat→Int→Option (Int)
  | 0,_=>none
  | n_58+1,n_57 =>
    (idx x_36.Worlds w_51).bind fun x_61 =>
    bif decide (n_57 < (((x_61).length:Int))) then
     (idx x_36.Worlds w_51).bind fun x_63 =>
     (idx x_63 n_57).bind fun x_64 =>
     (M169 f_1.Clocks x_64).bind fun r_65 =>
     bif r_65 != 0 then some 240 else
     (M177 f_1 x_36 w_51 k_60 n_58) ((w64 (n_57+1)))
    else
    k_60 ()
def M178 (w_51:Int) (nx_53:Int→Option (Int)) (_:Unit):Option (Int) :=
 nx_53 ((w64 (w_51+1)))
def M179 (f_1:TField) (x_36:TRunner) (k_54:Unit→Option (Int)):Nat→Int→Option (Int)
 | 0,_=>none
 | n_52+1,w_51 =>
  bif decide (w_51 < (((x_36.Worlds).length:Int))) then M177 f_1 x_36 w_51 (M178 w_51 (M179 f_1 x_36 k_54 n_52)) ((((((Option.getD (idx x_36.Worlds w_51) default)).length:Int)) - 0:Int).toNat+1) 0 else
  k_54 ()
def M180 (i_31:Int) (nx_33:Int→Option (Int)) (_:Unit):Option (Int) :=
 nx_33 ((w64 (i_31+1)))
def M181 (f_1:TField) (k_34:Unit→Option (Int)):Nat→Int→Option (Int)
  | 0,_=>none
  | n_32+1,i_31 =>
    bif decide (i_31 < (((f_1.Runners).length:Int))) then
     (idx f_1.Runners i_31).bind fun x_36 =>
     Option.bind (
      (M168 x_36.Bib).bind fun r_39 =>
      bif !r_39 then some true else
      bif decide (i_31 > 0) then
       (idx f_1.Runners (w64 (i_31 - 1))).bind fun x_43 =>
       bif decide (x_43.Bib≥x_36.Bib) then some true else
       (idx f_1.Runners 0).bind fun x_45 =>
       bif (((x_36.Keys).length:Int)) != (((x_45.Keys).length:Int)) then some true else
       some ((((x_36.Worlds).length:Int)) != (w64 ((((f_1.Pairs).length:Int))+1)))
      else
      (idx f_1.Runners 0).bind fun x_47 =>
      bif (((x_36.Keys).length:Int)) != (((x_47.Keys).length:Int)) then some true else
      some ((((x_36.Worlds).length:Int)) != (w64 ((((f_1.Pairs).length:Int))+1)))
     ) fun v_37 =>
     bif v_37 then some 240 else
     M179 f_1 x_36 (M180 i_31 (M181 f_1 k_34 n_32)) (((((x_36.Worlds).length:Int)) - 0:Int).toNat+1) 0
    else
    k_34 ()
def M182 (f_1:TField) (_:Unit):Option (Int) :=
 (M175 f_1).bind fun r_68 =>
 bif !r_68 then some 240 else
 some 0
def M183 (f_1:TField) (_:Unit):Option (Int) :=
 M181 f_1 (M182 f_1) (((((f_1.Runners).length:Int)) - 0:Int).toNat+1) 0
def M184 (f_1:TField):Option (Int) :=
 Option.bind (
  (M166 f_1.Clocks).bind fun r_5 =>
  bif r_5 != 0 then some true else
  bif decide ((((f_1.Pairs).length:Int)) > 16) then some true else
  bif decide ((((f_1.Runners).length:Int)) < 1) then some true else
  some (decide ((((f_1.Runners).length:Int)) > 4000))
 ) fun v_3 =>
 bif v_3 then some 240 else
 M176 f_1 (M183 f_1) (((((f_1.Pairs).length:Int)) - 0:Int).toNat+1) 0
def M185 (x_1:TOutcome) (l_2:List TSpan) (k_10:Unit→Option (Bool)):Nat→Int→Int→Option (Bool)
  | 0,_,_=>none
  | n_8+1,at_6,i_7 =>
    bif decide (i_7 < (((l_2).length:Int))) then
     Option.bind (
      (idx l_2 i_7).bind fun x_14 =>
      bif decide (x_14.Lo≤at_6) then
       (idx l_2 i_7).bind fun x_16 =>
       some (decide (at_6≤x_16.Hi))
      else
      some false
     ) fun v_12 =>
     bif v_12 then
      (idx l_2 i_7).bind fun x_18 =>
      bif decide (x_18.Hi≥x_1.Hi) then some true else
      (idx l_2 i_7).bind fun x_20 =>
      (M185 x_1 l_2 k_10 n_8) ((w64 (x_20.Hi+1))) ((w64 (i_7+1)))
     else
     (M185 x_1 l_2 k_10 n_8) at_6 ((w64 (i_7+1)))
    else
    k_10 ()
def M186 (_:Unit):Option (Bool) :=
 some false
def M187 (x_1:TOutcome) (l_2:List TSpan):Option (Bool) :=
 M185 x_1 l_2 M186 (((((l_2).length:Int)) - 0:Int).toNat+1) x_1.Lo 0
def M188 (x_2:TLook) (k_13:Unit→Option (Bool)):Nat→Int→Option (Bool)
  | 0,_=>none
  | n_11+1,i_10 =>
    bif decide (i_10 < (((x_2.Answers).length:Int))) then
     (idx x_2.Answers i_10).bind fun x_15 =>
     (idx x_2.Answers i_10).bind fun x_16 =>
     bif decide (x_15.Lo > x_16.Hi) then some false else
     bif decide (i_10 > 0) then
      (idx x_2.Answers i_10).bind fun x_19 =>
      (idx x_2.Answers (w64 (i_10 - 1))).bind fun x_20 =>
      bif decide (x_19.Lo≤x_20.Hi) then some false else
      (M188 x_2 k_13 n_11) ((w64 (i_10+1)))
     else
     (M188 x_2 k_13 n_11) ((w64 (i_10+1)))
    else
    k_13 ()
def M189 (x_2:TLook) (x_22:TRunner) (w_24:Int) (k_33:Unit→Option (Bool)):Nat→Int→Option (Bool)
  | 0,_=>none
  | n_31+1,i_30 =>
    (idx x_22.Worlds w_24).bind fun x_34 =>
    bif decide (i_30 < (((x_34).length:Int))) then
     (idx x_22.Worlds w_24).bind fun x_36 =>
     (idx x_36 i_30).bind fun x_37 =>
     bif x_37.Out then some false else
     (idx x_22.Worlds w_24).bind fun x_39 =>
     (idx x_39 i_30).bind fun x_40 =>
     (M187 x_40 x_2.Answers).bind fun r_41 =>
     bif !r_41 then some false else
     (M189 x_2 x_22 w_24 k_33 n_31) ((w64 (i_30+1)))
    else
    k_33 ()
def M190 (w_24:Int) (nx_26:Int→Option (Bool)) (_:Unit):Option (Bool) :=
 nx_26 ((w64 (w_24+1)))
def M191 (x_2:TLook) (x_22:TRunner) (k_27:Unit→Option (Bool)):Nat→Int→Option (Bool)
 | 0,_=>none
 | n_25+1,w_24 =>
  bif decide (w_24 < (((x_22.Worlds).length:Int))) then M189 x_2 x_22 w_24 (M190 w_24 (M191 x_2 x_22 k_27 n_25)) ((((((Option.getD (idx x_22.Worlds w_24) default)).length:Int)) - 0:Int).toNat+1) 0 else
  k_27 ()
def M192 (_:Unit):Option (Bool) :=
 some true
def M193 (f_1:TField) (x_2:TLook) (_:Unit):Option (Bool) :=
 (idx f_1.Runners x_2.Runner).bind fun x_22 =>
 M191 x_2 x_22 M192 (((((x_22.Worlds).length:Int)) - 0:Int).toNat+1) 0
def M194 (f_1:TField) (x_2:TLook):Option (Bool) :=
 bif (decide (x_2.Runner < 0)) || ((decide (x_2.Runner≥(((f_1.Runners).length:Int)))) || ((decide ((((x_2.Answers).length:Int)) < 1)) || (decide ((((x_2.Answers).length:Int)) > 4)))) then some false else
 M188 x_2 (M193 f_1 x_2) (((((x_2.Answers).length:Int)) - 0:Int).toNat+1) 0
def M195 (q_1:TQuestion) (k_15:Unit→Option (Int)):Nat→Int→Option (Int)
  | 0,_=>none
  | n_13+1,i_12 =>
    bif decide (i_12 < (((q_1.Looks).length:Int))) then
     (idx q_1.Looks i_12).bind fun x_17 =>
     (M194 q_1.Field x_17).bind fun r_18 =>
     bif !r_18 then some 360 else
     (M195 q_1 k_15 n_13) ((w64 (i_12+1)))
    else
    k_15 ()
def M196 (_:Unit):Option (Int) :=
 some 0
def M197 (q_1:TQuestion):Option (Int) :=
 Option.bind (
  (M184 q_1.Field).bind fun r_5 =>
  bif r_5 != 0 then some true else
  bif decide (q_1.Runner < 0) then some true else
  bif decide (q_1.Runner≥(((q_1.Field.Runners).length:Int))) then some true else
  some (decide ((((q_1.Looks).length:Int)) > 16))
 ) fun v_3 =>
 bif v_3 then some 360 else
 M195 q_1 M196 (((((q_1.Looks).length:Int)) - 0:Int).toNat+1) 0
def M198 (l_1:List TOutcome) (s_2:TSpan):Nat→Int→(List TOutcome)→Option (List TOutcome)
  | 0,_,_=>none
  | n_8+1,i_6,l_7 =>
    bif decide (i_6 < (((l_1).length:Int))) then
     (idx l_1 i_6).bind fun x_13 =>
     bif decide ((maxG x_13.Lo s_2.Lo)≤(minG x_13.Hi s_2.Hi)) then
      (app 32 l_7 (([({ Out:=x_13.Out,Seg:=x_13.Seg,Lo:=(maxG x_13.Lo s_2.Lo),Hi:=(minG x_13.Hi s_2.Hi) }:TOutcome)]:List TOutcome))).bind fun l_15 =>
      (M198 l_1 s_2 n_8) ((w64 (i_6+1))) l_15
     else
     (M198 l_1 s_2 n_8) ((w64 (i_6+1))) l_7
    else
    some l_7
def M199 (l_1:List TOutcome) (s_2:TSpan):Option (List TOutcome) :=
 (M198 l_1 s_2 (((((l_1).length:Int)) - 0:Int).toNat+1) 0 ((([]:List TOutcome)))).bind fun l_9 =>
 some l_9
def M200 (answer_3:Int) (x_6:TLook) (x_8:TRunner):Nat→Int→(List (List TOutcome))→Option (List (List TOutcome))
  | 0,_,_=>none
  | n_13+1,w_11,l_12 =>
    bif decide (w_11 < (((x_8.Worlds).length:Int))) then
     (idx x_8.Worlds w_11).bind fun x_18 =>
     (idx x_6.Answers answer_3).bind fun x_19 =>
     (M199 x_18 x_19).bind fun r_20 =>
     (app 24 l_12 (([r_20]:List (List TOutcome)))).bind fun l_22 =>
     (M200 answer_3 x_6 x_8 n_13) ((w64 (w_11+1))) l_22
    else
    some l_12
def M201 (q_1:TQuestion) (x_6:TLook) (l_7:List TRunner) (x_8:TRunner) (l_14:List (List TOutcome)) (k_29:Unit→Option (TQuestion × Bool)):Nat→Int→Option (TQuestion × Bool)
  | 0,_=>none
  | n_27+1,w_26 =>
    bif decide (w_26≤(((q_1.Field.Pairs).length:Int))) then
     (M172 (({ Clocks:=q_1.Field.Clocks,Pairs:=q_1.Field.Pairs,Runners:=(List.set l_7 (Int.toNat x_6.Runner) ({ Bib:=x_8.Bib,Keys:=x_8.Keys,Worlds:=l_14 }:TRunner)) }:TField)) w_26).bind fun r_31 =>
     bif r_31 then some (({ Field:=({ Clocks:=q_1.Field.Clocks,Pairs:=q_1.Field.Pairs,Runners:=(List.set l_7 (Int.toNat x_6.Runner) ({ Bib:=x_8.Bib,Keys:=x_8.Keys,Worlds:=l_14 }:TRunner)) }:TField),Runner:=q_1.Runner,Looks:=q_1.Looks }:TQuestion),true) else
     (M201 q_1 x_6 l_7 x_8 l_14 k_29 n_27) ((w64 (w_26+1)))
    else
    k_29 ()
def M202 (_:Unit):Option (TQuestion × Bool) :=
 some (({ Field:=({ Clocks:=({ Segments:=(([]:List TSegment)),Far:=(([]:List (List Int))) }:TClocks),Pairs:=(([]:List TPair)),Runners:=(([]:List TRunner)) }:TField),Runner:=0,Looks:=(([]:List TLook)) }:TQuestion),false)
def M203 (q_1:TQuestion) (look_2:Int) (answer_3:Int):Option (TQuestion × Bool) :=
 (idx q_1.Looks look_2).bind fun x_6 =>
 (app 56 (([]:List TRunner)) q_1.Field.Runners).bind fun l_7 =>
 (idx l_7 x_6.Runner).bind fun x_8 =>
 (M200 answer_3 x_6 x_8 (((((x_8.Worlds).length:Int)) - 0:Int).toNat+1) 0 ((([]:List (List TOutcome))))).bind fun l_14 =>
 (idx l_7 x_6.Runner).bind fun x_24 =>
 M201 q_1 x_6 l_7 x_8 l_14 M202 (((((q_1.Field.Pairs).length:Int))+1 - 0:Int).toNat+1) 0
def M204 (f_1:TField) (runner_2:Int):Option (Int) :=
 (M184 f_1).bind fun r_4 =>
 bif r_4 != 0 then some 240 else
 bif decide (runner_2 < 0) then some 250 else
 bif decide (runner_2≥(((f_1.Runners).length:Int))) then some 250 else
 some 0
def M205 (f_1:TField) (world_2:Int) (k_10:Unit→Option (Bool)):Nat→Int→Option (Bool)
  | 0,_=>none
  | n_8+1,i_7 =>
    bif decide (i_7 < (((f_1.Runners).length:Int))) then
     (idx f_1.Runners i_7).bind fun x_12 =>
     bif decide (world_2≥(((x_12.Worlds).length:Int))) then some false else
     (idx f_1.Runners i_7).bind fun x_14 =>
     (idx x_14.Worlds world_2).bind fun x_15 =>
     bif (((x_15).length:Int)) == 0 then some false else
     (M205 f_1 world_2 k_10 n_8) ((w64 (i_7+1)))
    else
    k_10 ()
def M206 (_:Unit):Option (Bool) :=
 some true
def M207 (f_1:TField) (world_2:Int):Option (Bool) :=
 bif decide (world_2 < 0) then some false else
 bif decide (world_2 > (((f_1.Pairs).length:Int))) then some false else
 M205 f_1 world_2 M206 (((((f_1.Runners).length:Int)) - 0:Int).toNat+1) 0
def M208 (a_1:List Int) (b_2:List Int) (k_8:Unit→Option (Bool)):Nat→Int→Option (Bool)
  | 0,_=>none
  | n_6+1,i_5 =>
    bif decide (i_5 < (((a_1).length:Int))) then
     bif decide (i_5 < (((b_2).length:Int))) then
      (idx a_1 i_5).bind fun x_11 =>
      (idx b_2 i_5).bind fun x_12 =>
      bif x_11 != x_12 then
       (idx a_1 i_5).bind fun x_14 =>
       (idx b_2 i_5).bind fun x_15 =>
       some (decide (x_14 < x_15))
      else
      (M208 a_1 b_2 k_8 n_6) ((w64 (i_5+1)))
     else
     k_8 ()
    else
    k_8 ()
def M209 (a_1:List Int) (b_2:List Int) (_:Unit):Option (Bool) :=
 some (decide ((((a_1).length:Int)) < (((b_2).length:Int))))
def M210 (a_1:List Int) (b_2:List Int):Option (Bool) :=
 M208 a_1 b_2 (M209 a_1 b_2) (((((a_1).length:Int)) - 0:Int).toNat+1) 0
def M211 (f_1:TField) (x_2:TOutcome) (runner_3:Int) (y_4:TOutcome) (rival_5:Int):Option (Bool) :=
 bif y_4.Out then some true else
 (idx f_1.Clocks.Far (w64 (x_2.Seg+1))).bind fun x_8 =>
 (idx x_8 (w64 (y_4.Seg+1))).bind fun x_9 =>
 bif decide ((w64 ((w64 (y_4.Hi+x_9)) - x_2.Lo)) > 0) then some true else
 bif (w64 ((w64 (y_4.Hi+x_9)) - x_2.Lo)) == 0 then
  (idx f_1.Runners rival_5).bind fun x_12 =>
  (idx f_1.Runners runner_3).bind fun x_13 =>
  (M210 x_12.Keys x_13.Keys).bind fun r_14 =>
  some (!r_14)
 else
 some false
def M212 (f_1:TField) (x_3:TOutcome) (runner_4:Int) (rival_5:Int) (x_8:List TOutcome) (k_13:Unit→Option (Bool)):Nat→Int→Option (Bool)
  | 0,_=>none
  | n_11+1,i_10 =>
    bif decide (i_10 < (((x_8).length:Int))) then
     (idx x_8 i_10).bind fun x_15 =>
     (M211 f_1 x_3 runner_4 x_15 rival_5).bind fun r_16 =>
     bif r_16 then some true else
     (M212 f_1 x_3 runner_4 rival_5 x_8 k_13 n_11) ((w64 (i_10+1)))
    else
    k_13 ()
def M213 (_:Unit):Option (Bool) :=
 some false
def M214 (f_1:TField) (world_2:Int) (x_3:TOutcome) (runner_4:Int) (rival_5:Int):Option (Bool) :=
 (idx f_1.Runners rival_5).bind fun x_7 =>
 (idx x_7.Worlds world_2).bind fun x_8 =>
 M212 f_1 x_3 runner_4 rival_5 x_8 M213 (((((x_8).length:Int)) - 0:Int).toNat+1) 0
def M215 (f_1:TField) (x_2:TOutcome) (runner_3:Int) (y_4:TOutcome) (rival_5:Int):Option (Bool) :=
 bif y_4.Out then some false else
 (idx f_1.Clocks.Far (w64 (y_4.Seg+1))).bind fun x_8 =>
 (idx x_8 (w64 (x_2.Seg+1))).bind fun x_9 =>
 bif decide ((w64 ((w64 (y_4.Lo - x_9)) - x_2.Hi)) < 0) then some true else
 bif (w64 ((w64 (y_4.Lo - x_9)) - x_2.Hi)) == 0 then
  (idx f_1.Runners rival_5).bind fun x_12 =>
  (idx f_1.Runners runner_3).bind fun x_13 =>
  (M210 x_12.Keys x_13.Keys).bind fun r_14 =>
  some r_14
 else
 some false
def M216 (f_1:TField) (x_3:TOutcome) (runner_4:Int) (rival_5:Int) (x_8:List TOutcome) (k_13:Unit→Option (Bool)):Nat→Int→Option (Bool)
  | 0,_=>none
  | n_11+1,i_10 =>
    bif decide (i_10 < (((x_8).length:Int))) then
     (idx x_8 i_10).bind fun x_15 =>
     (M215 f_1 x_3 runner_4 x_15 rival_5).bind fun r_16 =>
     bif r_16 then some true else
     (M216 f_1 x_3 runner_4 rival_5 x_8 k_13 n_11) ((w64 (i_10+1)))
    else
    k_13 ()
def M217 (_:Unit):Option (Bool) :=
 some false
def M218 (f_1:TField) (world_2:Int) (x_3:TOutcome) (runner_4:Int) (rival_5:Int):Option (Bool) :=
 (idx f_1.Runners rival_5).bind fun x_7 =>
 (idx x_7.Worlds world_2).bind fun x_8 =>
 M216 f_1 x_3 runner_4 rival_5 x_8 M217 (((((x_8).length:Int)) - 0:Int).toNat+1) 0
def M219 (f_1:TField) (world_2:Int) (x_3:TOutcome) (runner_4:Int):Nat→Int→Int→Int→Option (Int × Int)
  | 0,_,_,_=>none
  | n_13+1,best_10,worst_11,i_12 =>
    bif decide (i_12 < (((f_1.Runners).length:Int))) then
     Option.bind (
      bif i_12 == runner_4 then some (best_10,worst_11) else
      (M214 f_1 world_2 x_3 runner_4 i_12).bind fun r_23 =>
      bif !r_23 then
       (M218 f_1 world_2 x_3 runner_4 i_12).bind fun r_26 =>
       bif r_26 then some ((w64 (best_10+1)),(w64 (worst_11+1))) else
       some ((w64 (best_10+1)),worst_11)
      else
      (M218 f_1 world_2 x_3 runner_4 i_12).bind fun r_29 =>
      bif r_29 then some (best_10,(w64 (worst_11+1))) else
      some (best_10,worst_11)
     ) fun (best_19,worst_20) =>
     (M219 f_1 world_2 x_3 runner_4 n_13) best_19 worst_20 ((w64 (i_12+1)))
    else
    some (best_10,worst_11)
def M220 (f_1:TField) (world_2:Int) (x_3:TOutcome) (runner_4:Int):Option (Int × Int) :=
 (M219 f_1 world_2 x_3 runner_4 (((((f_1.Runners).length:Int)) - 0:Int).toNat+1) 1 1 0).bind fun (best_14,worst_15) =>
 some (best_14,worst_15)
def M221 (f_1:TField) (runner_2:Int) (w_13:Int) (x_25:List TOutcome):Nat→Int→Int→Int→Bool→Option (Int × Int × Bool)
  | 0,_,_,_,_=>none
  | n_34+1,i_30,v_31,v_32,v_33 =>
    bif decide (i_30 < (((x_25).length:Int))) then
     (M207 f_1 w_13).bind fun r_41 =>
     bif r_41 then
      Option.bind (
       (idx x_25 i_30).bind fun x_48 =>
       bif x_48.Out then some (v_31,v_32,true) else
       (idx x_25 i_30).bind fun x_50 =>
       (M220 f_1 w_13 x_50 runner_2).bind fun (r_51,r_52) =>
       bif v_31 == 0 then some (r_51,(maxG v_32 r_52),v_33) else
       bif decide (r_51 < v_31) then some (r_51,(maxG v_32 r_52),v_33) else
       some (v_31,(maxG v_32 r_52),v_33)
      ) fun (v_44,v_45,v_46) =>
      (M221 f_1 runner_2 w_13 x_25 n_34) ((w64 (i_30+1))) v_44 v_45 v_46
     else
     some (v_31,v_32,v_33)
    else
    some (v_31,v_32,v_33)
def M222 (f_1:TField) (runner_2:Int):Nat→Int→Int→Int→Bool→Option (Int × Int × Bool)
  | 0,_,_,_,_=>none
  | n_17+1,w_13,v_14,v_15,v_16 =>
    bif decide (w_13≤(((f_1.Pairs).length:Int))) then
     (idx f_1.Runners runner_2).bind fun x_24 =>
     (idx x_24.Worlds w_13).bind fun x_25 =>
     (M221 f_1 runner_2 w_13 x_25 (((((x_25).length:Int)) - 0:Int).toNat+1) 0 v_14 v_15 v_16).bind fun (v_35,v_36,v_37) =>
     (M222 f_1 runner_2 n_17) ((w64 (w_13+1))) v_35 v_36 v_37
    else
    some (v_14,v_15,v_16)
def M223 (f_1:TField) (runner_2:Int):Option (TRank × Int) :=
 (M204 f_1 runner_2).bind fun r_5 =>
 bif r_5 != 0 then some (({ Bib:=0,Kind:=0,Lo:=0,Hi:=0,Out:=false }:TRank),r_5) else
 (idx f_1.Runners runner_2).bind fun x_8 =>
 (M222 f_1 runner_2 (((((f_1.Pairs).length:Int))+1 - 0:Int).toNat+1) 0 0 0 false).bind fun (v_18,v_19,v_20) =>
 some (({ Bib:=x_8.Bib,Kind:=(bif (v_18 == 0) then 3 else (bif (v_18 == v_19) then (bif (!v_20) then 1 else 2) else 2)),Lo:=v_18,Hi:=v_19,Out:=v_20 }:TRank),0)
def M224 (q_1:TQuestion):Option (Int) :=
 (M223 q_1.Field q_1.Runner).bind fun (r_3,r_4) =>
 bif r_3.Kind != 2 then some 0 else
 bif r_3.Out then some (w64 ((w64 (r_3.Hi - r_3.Lo))+1)) else
 some (w64 (r_3.Hi - r_3.Lo))
def M225:Option (TPlan) :=
 some ({ Look:=(-1),After:=(([]:List TPlan0)) }:TPlan)
def M226 (used_1:List Bool) (look_2:Int):Option (List Bool) :=
 (app 1 (([]:List Bool)) used_1).bind fun l_4 =>
 (idx l_4 look_2).bind fun x_5 =>
 some (List.set l_4 (Int.toNat look_2) true)
def M227 (q_1:TQuestion) (look_2:Int):Nat→Int→Int→Option (Int)
  | 0,_,_=>none
  | n_8+1,n_6,i_7 =>
    (idx q_1.Looks look_2).bind fun x_12 =>
    bif decide (i_7 < (((x_12.Answers).length:Int))) then
     (M203 q_1 look_2 i_7).bind fun (r_14,r_15) =>
     bif r_15 then
      (M224 r_14).bind fun r_18 =>
      (M227 q_1 look_2 n_8) (maxG n_6 r_18) ((w64 (i_7+1)))
     else
     (M227 q_1 look_2 n_8) n_6 ((w64 (i_7+1)))
    else
    some n_6
def M228 (q_1:TQuestion) (look_2:Int):Option (Int) :=
 (M227 q_1 look_2 ((((((Option.getD (idx q_1.Looks look_2) default).Answers).length:Int)) - 0:Int).toNat+1) 0 0).bind fun n_9 =>
 some n_9
def M229 (q_1:TQuestion) (used_3:List Bool):Nat→Int→Int→Int→Option (Int)
  | 0,_,_,_=>none
  | n_17+1,best_14,least_15,i_16 =>
    bif decide (i_16 < (((q_1.Looks).length:Int))) then
     Option.bind (
      (idx used_3 i_16).bind fun x_25 =>
      bif x_25 then some (best_14,least_15) else
      (M228 q_1 i_16).bind fun r_27 =>
      bif decide (best_14 < 0) then some (i_16,r_27) else
      bif decide (r_27 < least_15) then some (i_16,r_27) else
      some (best_14,least_15)
     ) fun (best_22,least_23) =>
     (M229 q_1 used_3 n_17) best_22 least_23 ((w64 (i_16+1)))
    else
    some best_14
def M230 (q_1:TQuestion) (left_2:Int) (used_3:List Bool) (best_18:Int) (rc_9110:TQuestion→Int→(List Bool)→Option (TPlan × Bool)) (k_41:(List TPlan0)→Option (TPlan × Bool)):Nat→Int→(List TPlan0)→Option (TPlan × Bool)
  | 0,_,_=>none
  | n_38+1,i_36,l_37 =>
    (idx q_1.Looks best_18).bind fun x_42 =>
    bif decide (i_36 < (((x_42.Answers).length:Int))) then
     (M203 q_1 best_18 i_36).bind fun (r_44,r_45) =>
     (M225).bind fun r_47 =>
     bif r_45 then
      (M226 used_3 best_18).bind fun r_50 =>
      (rc_9110 r_44 ((w64 (left_2 - 1))) r_50).bind fun (r_52,r_53) =>
      bif !r_53 then some (({ Look:=0,After:=(([]:List TPlan0)) }:TPlan),false) else
      (app 32 l_37 (([(pTPlan r_52)]:List TPlan0))).bind fun l_56 =>
      (M230 q_1 left_2 used_3 best_18 rc_9110 k_41 n_38) ((w64 (i_36+1))) l_56
     else
     (app 32 l_37 (([(pTPlan r_47)]:List TPlan0))).bind fun l_57 =>
     (M230 q_1 left_2 used_3 best_18 rc_9110 k_41 n_38) ((w64 (i_36+1))) l_57
    else
    k_41 l_37
def M231 (best_18:Int) (l_39:List TPlan0):Option (TPlan × Bool) :=
 some (({ Look:=best_18,After:=l_39 }:TPlan),true)
def M232 (rc_9110:TQuestion→Int→(List Bool)→Option (TPlan × Bool)) (q_1:TQuestion) (left_2:Int) (used_3:List Bool):Option (TPlan × Bool) :=
 (M224 q_1).bind fun r_6 =>
 bif r_6 == 0 then
  (M225).bind fun r_9 =>
  some (r_9,true)
 else
 (M229 q_1 used_3 (((((q_1.Looks).length:Int)) - 0:Int).toNat+1) (-1) 0 0).bind fun best_18 =>
 bif decide (best_18 < 0) then some (({ Look:=0,After:=(([]:List TPlan0)) }:TPlan),false) else
 bif left_2 == 0 then some (({ Look:=0,After:=(([]:List TPlan0)) }:TPlan),false) else
 M230 q_1 left_2 used_3 best_18 rc_9110 (M231 best_18) ((((((Option.getD (idx q_1.Looks best_18) default).Answers).length:Int)) - 0:Int).toNat+1) 0 ((([]:List TPlan0)))
def M233:Nat→TQuestion→Int→(List Bool)→Option (TPlan × Bool)
 | 0=>fun _ _ _=>none
 | n+1=>M232 (M233 n)
def M234 (q_1:TQuestion):Option (TPlan × Int) :=
 (M197 q_1).bind fun r_4 =>
 bif r_4 != 0 then some (({ Look:=0,After:=(([]:List TPlan0)) }:TPlan),r_4) else
 (mkN 1 (((q_1.Looks).length:Int))).bind fun n_7 =>
 (M233 1000 q_1 6 (List.replicate n_7 false)).bind fun (r_8,r_9) =>
 bif !r_9 then some (({ Look:=0,After:=(([]:List TPlan0)) }:TPlan),361) else
 some (r_8,0)
def M235 (q_1:TQuestion):Option (Bool) :=
 (M141).bind fun r_3 =>
 bif !r_3 then some false else
 (M151 q_1).bind fun r_6 =>
 bif !r_6 then some true else
 bif decide ((((q_1.Looks).length:Int)) > 3) then some true else
 (M136 q_1).bind fun (r_10,r_11) =>
 (M234 q_1).bind fun (r_13,r_14) =>
 (M140 1000 r_10 r_13).bind fun r_16 =>
 bif r_16 then some (r_11 == r_14) else
 some false
end Go.Stop
