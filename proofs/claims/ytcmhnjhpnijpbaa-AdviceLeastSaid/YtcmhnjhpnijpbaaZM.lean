/- Models of functions, by program (gen.py). No condition. -/
import Derived.Test.YtcmhnjhpnijpbaaZB14
namespace Go.Stop
open Go Go.Abs
set_option linter.unusedVariables false
structure TSegment where
 Mat:Int
 Epoch:Int
 Anchor:Int
 deriving DecidableEq,Inhabited
structure TClocks where
 Segments:List TSegment
 Far:List (List Int)
 deriving DecidableEq,Inhabited
structure TPair where
 A:Int
 B:Int
 deriving DecidableEq,Inhabited
structure TOutcome where
 Out:Bool
 Seg:Int
 Lo:Int
 Hi:Int
 deriving DecidableEq,Inhabited
structure TRunner where
 Bib:Int
 Keys:List Int
 Worlds:List (List TOutcome)
 deriving DecidableEq,Inhabited
structure TField where
 Clocks:TClocks
 Pairs:List TPair
 Runners:List TRunner
 deriving DecidableEq,Inhabited
structure TSpan where
 Lo:Int
 Hi:Int
 deriving DecidableEq,Inhabited
structure TLook where
 Runner:Int
 Answers:List TSpan
 deriving DecidableEq,Inhabited
structure TQuestion where
 Field:TField
 Runner:Int
 Looks:List TLook
 deriving DecidableEq,Inhabited
structure TRank where
 Bib:Int
 Kind:Int
 Lo:Int
 Hi:Int
 Out:Bool
 deriving DecidableEq,Inhabited
structure Tadvice_state where
 q:TQuestion
 used:List Bool
 deriving DecidableEq,Inhabited
structure Tranks_place where
 world:Int
 outcome:Int
 rank:Int
 deriving DecidableEq,Inhabited
structure Tclocks_place where
 mat:Int
 epoch:Int
 deriving DecidableEq,Inhabited
def eTSegment (x:TSegment):D:=.ag [(.i .i64 x.Mat),(.i .i64 x.Epoch),(.i .i64 x.Anchor)]
def eTClocks (x:TClocks):D:=.ag [(.ls (List.map eTSegment x.Segments)),(.ls (List.map (eL eI) x.Far))]
def eTPair (x:TPair):D:=.ag [(.i .i64 x.A),(.i .i64 x.B)]
def eTOutcome (x:TOutcome):D:=.ag [(.b x.Out),(.i .i64 x.Seg),(.i .i64 x.Lo),(.i .i64 x.Hi)]
def eTRunner (x:TRunner):D:=.ag [(.i .i64 x.Bib),(.ls (List.map eI x.Keys)),(.ls (List.map (eL eTOutcome) x.Worlds))]
def eTField (x:TField):D:=.ag [(.ls (List.map eTSegment x.Clocks.Segments)),(.ls (List.map (eL eI) x.Clocks.Far)),(.ls (List.map eTPair x.Pairs)),(.ls (List.map eTRunner x.Runners))]
def eTSpan (x:TSpan):D:=.ag [(.i .i64 x.Lo),(.i .i64 x.Hi)]
def eTLook (x:TLook):D:=.ag [(.i .i64 x.Runner),(.ls (List.map eTSpan x.Answers))]
def eTQuestion (x:TQuestion):D:=.ag [(.ls (List.map eTSegment x.Field.Clocks.Segments)),(.ls (List.map (eL eI) x.Field.Clocks.Far)),(.ls (List.map eTPair x.Field.Pairs)),(.ls (List.map eTRunner x.Field.Runners)),(.i .i64 x.Runner),(.ls (List.map eTLook x.Looks))]
def eTRank (x:TRank):D:=.ag [(.i .i64 x.Bib),(.i .i64 x.Kind),(.i .i64 x.Lo),(.i .i64 x.Hi),(.b x.Out)]
def eTadvice_state (x:Tadvice_state):D:=.ag [(.ls (List.map eTSegment x.q.Field.Clocks.Segments)),(.ls (List.map (eL eI) x.q.Field.Clocks.Far)),(.ls (List.map eTPair x.q.Field.Pairs)),(.ls (List.map eTRunner x.q.Field.Runners)),(.i .i64 x.q.Runner),(.ls (List.map eTLook x.q.Looks)),(.ls (List.map eB x.used))]
def eTranks_place (x:Tranks_place):D:=.ag [(.i .i64 x.world),(.i .i64 x.outcome),(.i .i64 x.rank)]
def eTclocks_place (x:Tclocks_place):D:=.ag [(.i .i64 x.mat),(.i .i64 x.epoch)]
def M0:Option (TQuestion) :=
 some ({ Field:=({ Clocks:=({ Segments:=(([]:List TSegment)),Far:=(([(([0]:List Int))]:List (List Int))) }:TClocks),Pairs:=(([]:List TPair)),Runners:=(([({ Bib:=1,Keys:=(([]:List Int)),Worlds:=(([(([({ Out:=false,Seg:=(-1),Lo:=10,Hi:=12 }:TOutcome)]:List TOutcome))]:List (List TOutcome))) }:TRunner),({ Bib:=2,Keys:=(([]:List Int)),Worlds:=(([(([({ Out:=false,Seg:=(-1),Lo:=11,Hi:=11 }:TOutcome)]:List TOutcome))]:List (List TOutcome))) }:TRunner)]:List TRunner)) }:TField),Runner:=0,Looks:=(([({ Runner:=0,Answers:=(([({ Lo:=0,Hi:=11 }:TSpan),({ Lo:=12,Hi:=20 }:TSpan)]:List TSpan)) }:TLook)]:List TLook)) }:TQuestion)
def M1 (answers_2:List Int) (k_15:Int→(List TPlan0)→Option (Int × Bool)):Nat→Int→Int→(List TPlan0)→Option (Int × Bool)
  | 0,_,_,_=>none
  | n_11+1,v_8,v_9,v_10 =>
    bif decide (v_8 < (((answers_2).length:Int))) then
     (idx answers_2 v_8).bind fun x_17 =>
     bif decide (v_9 < 0) then some (0,false) else
     bif decide (x_17 < 0) then some (0,false) else
     bif decide (x_17≥(((v_10).length:Int))) then some (0,false) else
     (idx v_10 x_17).bind fun x_21 =>
     (uTPlan x_21).bind fun p_22 =>
     (M1 answers_2 k_15 n_11) ((w64 (v_8+1))) p_22.Look p_22.After
    else
    k_15 v_9 v_10
def M2 (v_12:Int) (v_13:List TPlan0):Option (Int × Bool) :=
 some (v_12,true)
def M3 (p_1:TPlan) (answers_2:List Int):Option (Int × Bool) :=
 M1 answers_2 M2 (((((answers_2).length:Int)) - 0:Int).toNat+1) 0 p_1.Look p_1.After
def M4 (n_1:Int):Option (Bool) :=
 bif decide (n_1≥(-1099511627776)) then some (decide (n_1≤1099511627776)) else
 some false
def M5 (x_1:Int):Option (Bool) :=
 some (x_1 != x_1)
def M6 (x_1:Int) (y_2:Int):Option (Int) :=
 (M5 x_1).bind fun r_4 =>
 (M5 y_2).bind fun r_6 =>
 bif r_4 then
  bif r_6 then some 0 else
  some (-1)
 else
 bif r_6 then some 1 else
 bif decide (x_1 < y_2) then some (-1) else
 bif decide (x_1 > y_2) then some 1 else
 some 0
def M7 (vals_1:List Int) (k_7:Unit→Option (Int)):Nat→Int→Option (Int)
  | 0,_=>none
  | n_5+1,v_4 =>
    bif decide (v_4 < (((vals_1).length:Int))) then
     (idx vals_1 v_4).bind fun x_9 =>
     bif x_9 != 0 then some x_9 else
     (M7 vals_1 k_7 n_5) ((w64 (v_4+1)))
    else
    k_7 ()
def M8 (_:Unit):Option (Int) :=
 some 0
def M9 (vals_1:List Int):Option (Int) :=
 M7 vals_1 M8 (((((vals_1).length:Int)) - 0:Int).toNat+1) 0
def M10 (p_1:Tclocks_place) (q_2:Tclocks_place):Option (Int) :=
 (M6 p_1.mat q_2.mat).bind fun r_4 =>
 (M6 p_1.epoch q_2.epoch).bind fun r_6 =>
 (M9 ((([r_4,r_6]:List Int)))).bind fun r_8 =>
 some r_8
def M11 (a_1:TSegment) (b_2:TSegment):Option (Int) :=
 (M10 ({ mat:=a_1.Mat,epoch:=a_1.Epoch }:Tclocks_place) ({ mat:=b_2.Mat,epoch:=b_2.Epoch }:Tclocks_place)).bind fun r_4 =>
 some r_4
def M12 (w_1:Int):Option (Bool) :=
 bif decide (w_1 < (-2199023255552)) then some true else
 some (decide (w_1 > 2199023255552))
def M13 (s_1:List Int) (k_7:Unit→Option (Int)):Nat→Int→Option (Int)
  | 0,_=>none
  | n_5+1,v_4 =>
    bif decide (v_4 < (((s_1).length:Int))) then
     (idx s_1 v_4).bind fun x_9 =>
     (M12 x_9).bind fun r_10 =>
     bif r_10 then some v_4 else
     (M13 s_1 k_7 n_5) ((w64 (v_4+1)))
    else
    k_7 ()
def M14 (_:Unit):Option (Int) :=
 some (-1)
def M15 (s_1:List Int):Option (Int) :=
 M13 s_1 M14 (((((s_1).length:Int)) - 0:Int).toNat+1) 0
def M16 (s_1:List Int):Option (Bool) :=
 (M15 s_1).bind fun r_3 =>
 some (decide (r_3≥0))
def M17 (k_1:TClocks) (k_9:Unit→Option (Int)):Nat→Int→Option (Int)
  | 0,_=>none
  | n_7+1,v_6 =>
    bif decide (v_6 < (((k_1.Segments).length:Int))) then
     (idx k_1.Segments v_6).bind fun x_11 =>
     Option.bind (
      bif decide (x_11.Mat < 0) then some true else
      bif decide (x_11.Mat≥40) then some true else
      bif decide (x_11.Epoch < 0) then some true else
      bif decide (x_11.Epoch > 255) then some true else
      (M4 x_11.Anchor).bind fun r_18 =>
      bif !r_18 then some true else
      bif decide (v_6 > 0) then
       (idx k_1.Segments (w64 (v_6 - 1))).bind fun x_22 =>
       (M11 x_22 x_11).bind fun r_23 =>
       some (decide (r_23≥0))
      else
      some false
     ) fun v_12 =>
     bif v_12 then some 160 else
     (M17 k_1 k_9 n_7) ((w64 (v_6+1)))
    else
    k_9 ()
def M18 (k_1:TClocks) (k_30:Unit→Option (Int)):Nat→Int→Option (Int)
  | 0,_=>none
  | n_28+1,v_27 =>
    bif decide (v_27 < (((k_1.Far).length:Int))) then
     (idx k_1.Far v_27).bind fun x_32 =>
     bif (((x_32).length:Int)) != (w64 ((((k_1.Segments).length:Int))+1)) then some 160 else
     (idx x_32 v_27).bind fun x_34 =>
     bif x_34 != 0 then some 160 else
     (M16 x_32).bind fun r_36 =>
     bif r_36 then some 160 else
     (M18 k_1 k_30 n_28) ((w64 (v_27+1)))
    else
    k_30 ()
def M19 (k_1:TClocks) (v_40:Int) (x_52:Int) (x_53:List Int) (k_58:Unit→Option (Int)):Nat→Int→Option (Int)
  | 0,_=>none
  | n_56+1,v_55 =>
    bif decide (v_55 < (((x_53).length:Int))) then
     (idx x_53 v_55).bind fun x_60 =>
     (idx k_1.Far v_40).bind fun x_61 =>
     (idx x_61 v_55).bind fun x_62 =>
     bif decide (x_62 > (w64 (x_52+x_60))) then some 160 else
     (M19 k_1 v_40 x_52 x_53 k_58 n_56) ((w64 (v_55+1)))
    else
    k_58 ()
def M20 (v_47:Int) (nx_49:Int→Option (Int)) (_:Unit):Option (Int) :=
 nx_49 ((w64 (v_47+1)))
def M21 (k_1:TClocks) (v_40:Int) (x_45:List Int) (k_50:Unit→Option (Int)):Nat→Int→Option (Int)
  | 0,_=>none
  | n_48+1,v_47 =>
    bif decide (v_47 < (((x_45).length:Int))) then
     (idx x_45 v_47).bind fun x_52 =>
     (idx k_1.Far v_47).bind fun x_53 =>
     M19 k_1 v_40 x_52 x_53 (M20 v_47 (M21 k_1 v_40 x_45 k_50 n_48)) (((((x_53).length:Int)) - 0:Int).toNat+1) 0
    else
    k_50 ()
def M22 (v_40:Int) (nx_42:Int→Option (Int)) (_:Unit):Option (Int) :=
 nx_42 ((w64 (v_40+1)))
def M23 (k_1:TClocks) (k_43:Unit→Option (Int)):Nat→Int→Option (Int)
  | 0,_=>none
  | n_41+1,v_40 =>
    bif decide (v_40 < (w64 ((((k_1.Segments).length:Int))+1))) then
     (idx k_1.Far v_40).bind fun x_45 =>
     M21 k_1 v_40 x_45 (M22 v_40 (M23 k_1 k_43 n_41)) (((((x_45).length:Int)) - 0:Int).toNat+1) 0
    else
    k_43 ()
def M24 (_:Unit):Option (Int) :=
 some 0
def M25 (k_1:TClocks) (_:Unit):Option (Int) :=
 M23 k_1 M24 (((w64 ((((k_1.Segments).length:Int))+1)) - 0:Int).toNat+1) 0
def M26 (k_1:TClocks) (_:Unit):Option (Int) :=
 M18 k_1 (M25 k_1) (((((k_1.Far).length:Int)) - 0:Int).toNat+1) 0
def M27 (k_1:TClocks):Option (Int) :=
 bif decide ((((k_1.Segments).length:Int)) > 511) then some 160 else
 bif (((k_1.Far).length:Int)) != (w64 ((((k_1.Segments).length:Int))+1)) then some 160 else
 M17 k_1 (M26 k_1) (((((k_1.Segments).length:Int)) - 0:Int).toNat+1) 0
def M28 (slices_1:List (List TOutcome)):Nat→Int→Int→Option (Int)
  | 0,_,_=>none
  | n_7+1,size_5,v_6 =>
    bif decide (v_6 < (((slices_1).length:Int))) then
     (idx slices_1 v_6).bind fun x_12 =>
     bif decide ((w64 (size_5+(((x_12).length:Int)))) < 0) then none else
     (M28 slices_1 n_7) ((w64 (size_5+(((x_12).length:Int))))) ((w64 (v_6+1)))
    else
    some size_5
def M29 (slices_1:List (List TOutcome)):Nat→Int→(List TOutcome)→Option (List TOutcome)
  | 0,_,_=>none
  | n_23+1,v_21,l_22 =>
    bif decide (v_21 < (((slices_1).length:Int))) then
     (idx slices_1 v_21).bind fun x_28 =>
     (app 32 l_22 x_28).bind fun l_29 =>
     (M29 slices_1 n_23) ((w64 (v_21+1))) l_29
    else
    some l_22
def M30 (slices_1:List (List TOutcome)):Nat→Int→(List TOutcome)→Option (List TOutcome)
  | 0,_,_=>none
  | n_35+1,v_33,l_34 =>
    bif decide (v_33 < (((slices_1).length:Int))) then
     (idx slices_1 v_33).bind fun x_40 =>
     (app 32 l_34 x_40).bind fun l_41 =>
     (M30 slices_1 n_35) ((w64 (v_33+1))) l_41
    else
    some l_34
def M31 (slices_1:List (List TOutcome)):Option (List TOutcome) :=
 (M28 slices_1 (((((slices_1).length:Int)) - 0:Int).toNat+1) 0 0).bind fun size_8 =>
 bif decide (size_8 < 0) then none else
 bif decide ((w64 (size_8 - 0)) > 0) then
  (mkZ 32 (w64 (size_8 - 0))).bind fun n_17 =>
  (slcTo (List.replicate n_17 ({ Out:=false,Seg:=0,Lo:=0,Hi:=0 }:TOutcome)) 0).bind fun l_18 =>
  (M29 slices_1 (((((slices_1).length:Int)) - 0:Int).toNat+1) 0 l_18).bind fun l_24 =>
  some l_24
 else
 (M30 slices_1 (((((slices_1).length:Int)) - 0:Int).toNat+1) 0 ((([]:List TOutcome)))).bind fun l_36 =>
 some l_36
def M32:Option (TOutcome) :=
 some ({ Out:=true,Seg:=(-1),Lo:=0,Hi:=0 }:TOutcome)
def M33 (k_1:TClocks) (x_2:TOutcome):Option (Int) :=
 (M27 k_1).bind fun r_4 =>
 bif r_4 != 0 then some r_4 else
 bif x_2.Out then
  (M32).bind fun r_13 =>
  bif !((x_2.Out == r_13.Out) && ((x_2.Seg == r_13.Seg) && ((x_2.Lo == r_13.Lo) && ((x_2.Hi == r_13.Hi) && true)))) then some 230 else
  some 0
 else
 bif !((decide (x_2.Seg≥(-1))) && ((decide (x_2.Seg < (((k_1.Segments).length:Int)))) && ((decide (x_2.Lo≥(-288230376151711744))) && ((decide (x_2.Lo≤x_2.Hi)) && (decide (x_2.Hi≤288230376151711744)))))) then some 230 else
 some 0
def M34 (r_1:TRunner) (c_2:Int):Option (Bool) :=
 (idx r_1.Worlds c_2).bind fun x_4 =>
 some ((((x_4).length:Int)) == 0)
def M35 (s_1:List TRunner) (c_2:Int) (k_8:Unit→Option (Int)):Nat→Int→Option (Int)
  | 0,_=>none
  | n_6+1,v_5 =>
    bif decide (v_5 < (((s_1).length:Int))) then
     (idx s_1 v_5).bind fun x_10 =>
     (M34 x_10 c_2).bind fun r_11 =>
     bif r_11 then some v_5 else
     (M35 s_1 c_2 k_8 n_6) ((w64 (v_5+1)))
    else
    k_8 ()
def M36 (_:Unit):Option (Int) :=
 some (-1)
def M37 (s_1:List TRunner) (c_2:Int):Option (Int) :=
 M35 s_1 c_2 M36 (((((s_1).length:Int)) - 0:Int).toNat+1) 0
def M38 (s_1:List TRunner) (c_2:Int):Option (Bool) :=
 (M37 s_1 c_2).bind fun r_4 =>
 some (decide (r_4≥0))
def M39 (f_1:TField) (k_7:Unit→Option (Bool)):Nat→Int→Option (Bool)
  | 0,_=>none
  | n_5+1,v_4 =>
    bif decide (v_4 < (w64 ((((f_1.Pairs).length:Int))+1))) then
     (M38 f_1.Runners v_4).bind fun r_9 =>
     bif !r_9 then some true else
     (M39 f_1 k_7 n_5) ((w64 (v_4+1)))
    else
    k_7 ()
def M40 (_:Unit):Option (Bool) :=
 some false
def M41 (f_1:TField):Option (Bool) :=
 M39 f_1 M40 (((w64 ((((f_1.Pairs).length:Int))+1)) - 0:Int).toNat+1) 0
def M42 (f_1:TField) (k_19:Unit→Option (Int)):Nat→Int→Int→Int→Option (Int)
  | 0,_,_,_=>none
  | n_17+1,v_14,v_15,v_16 =>
    bif decide (v_14 < (((f_1.Pairs).length:Int))) then
     (idx f_1.Pairs v_14).bind fun x_21 =>
     bif (decide (x_21.A < 1)) || ((decide (x_21.A≥x_21.B)) || ((decide (x_21.B > 9999)) || ((decide (x_21.A < v_15)) || ((x_21.A == v_15) && (decide (x_21.B≤v_16)))))) then some 240 else
     (M42 f_1 k_19 n_17) ((w64 (v_14+1))) x_21.A x_21.B
    else
    k_19 ()
def M43 (f_1:TField) (r_45:List TOutcome) (k_51:Unit→Option (Int)):Nat→Int→Option (Int)
  | 0,_=>none
  | n_49+1,v_48 =>
    bif decide (v_48 < (((r_45).length:Int))) then
     (idx r_45 v_48).bind fun x_53 =>
     (M33 f_1.Clocks x_53).bind fun r_54 =>
     bif r_54 != 0 then some 240 else
     (M43 f_1 r_45 k_51 n_49) ((w64 (v_48+1)))
    else
    k_51 ()
def M44 (v_32:Int) (nx_34:Int→Int→Option (Int)) (x_37:TRunner) (_:Unit):Option (Int) :=
 nx_34 x_37.Bib ((w64 (v_32+1)))
def M45 (f_1:TField) (k_35:Unit→Option (Int)):Nat→Int→Int→Option (Int)
  | 0,_,_=>none
  | n_33+1,bib_31,v_32 =>
    bif decide (v_32 < (((f_1.Runners).length:Int))) then
     (idx f_1.Runners v_32).bind fun x_37 =>
     Option.bind (
      bif decide (x_37.Bib≤bib_31) then some true else
      bif decide (x_37.Bib > 9999) then some true else
      (idx f_1.Runners 0).bind fun x_42 =>
      bif (((x_37.Keys).length:Int)) != (((x_42.Keys).length:Int)) then some true else
      some ((((x_37.Worlds).length:Int)) != (w64 ((((f_1.Pairs).length:Int))+1)))
     ) fun v_38 =>
     bif v_38 then some 240 else
     (M31 x_37.Worlds).bind fun r_45 =>
     M43 f_1 r_45 (M44 v_32 (M45 f_1 k_35 n_33) x_37) (((((r_45).length:Int)) - 0:Int).toNat+1) 0
    else
    k_35 ()
def M46 (f_1:TField) (_:Unit):Option (Int) :=
 (M41 f_1).bind fun r_57 =>
 bif !r_57 then some 240 else
 some 0
def M47 (f_1:TField) (_:Unit):Option (Int) :=
 M45 f_1 (M46 f_1) (((((f_1.Runners).length:Int)) - 0:Int).toNat+1) 0 0
def M48 (f_1:TField):Option (Int) :=
 Option.bind (
  (M27 f_1.Clocks).bind fun r_5 =>
  bif r_5 != 0 then some true else
  bif decide ((((f_1.Pairs).length:Int)) > 16) then some true else
  bif decide ((((f_1.Runners).length:Int)) < 1) then some true else
  some (decide ((((f_1.Runners).length:Int)) > 4000))
 ) fun v_3 =>
 bif v_3 then some 240 else
 M42 f_1 (M47 f_1) (((((f_1.Pairs).length:Int)) - 0:Int).toNat+1) 0 0 0
def M49 (l_1:List TSpan) (x_2:TOutcome) (k_10:Unit→Option (Bool)):Nat→Int→Int→Option (Bool)
  | 0,_,_=>none
  | n_8+1,at_6,v_7 =>
    bif decide (v_7 < (((l_1).length:Int))) then
     (idx l_1 v_7).bind fun x_12 =>
     bif decide (x_12.Lo > at_6) then (M49 l_1 x_2 k_10 n_8) at_6 ((w64 (v_7+1))) else
     bif decide (at_6 > x_12.Hi) then (M49 l_1 x_2 k_10 n_8) at_6 ((w64 (v_7+1))) else
     bif decide (x_12.Hi≥x_2.Hi) then some true else
     (M49 l_1 x_2 k_10 n_8) ((w64 (x_12.Hi+1))) ((w64 (v_7+1)))
    else
    k_10 ()
def M50 (_:Unit):Option (Bool) :=
 some false
def M51 (l_1:List TSpan) (x_2:TOutcome):Option (Bool) :=
 M49 l_1 x_2 M50 (((((l_1).length:Int)) - 0:Int).toNat+1) x_2.Lo 0
def M52 (x_17:TLook) (k_27:Unit→Option (Bool)):Nat→Int→Option (Bool)
  | 0,_=>none
  | n_25+1,v_24 =>
    bif decide (v_24 < (((x_17.Answers).length:Int))) then
     (idx x_17.Answers v_24).bind fun x_29 =>
     bif decide (x_29.Lo > x_29.Hi) then some false else
     bif decide (v_24 > 0) then
      (idx x_17.Answers (w64 (v_24 - 1))).bind fun x_32 =>
      bif decide (x_29.Lo≤x_32.Hi) then some false else
      (M52 x_17 k_27 n_25) ((w64 (v_24+1)))
     else
     (M52 x_17 k_27 n_25) ((w64 (v_24+1)))
    else
    k_27 ()
def M53 (x_17:TLook) (x_41:List TOutcome) (k_46:Unit→Option (Bool)):Nat→Int→Option (Bool)
  | 0,_=>none
  | n_44+1,v_43 =>
    bif decide (v_43 < (((x_41).length:Int))) then
     (idx x_41 v_43).bind fun x_48 =>
     bif x_48.Out then some false else
     (M51 x_17.Answers x_48).bind fun r_50 =>
     bif !r_50 then some false else
     (M53 x_17 x_41 k_46 n_44) ((w64 (v_43+1)))
    else
    k_46 ()
def M54 (v_36:Int) (nx_38:Int→Option (Bool)) (_:Unit):Option (Bool) :=
 nx_38 ((w64 (v_36+1)))
def M55 (x_17:TLook) (x_34:TRunner) (k_39:Unit→Option (Bool)):Nat→Int→Option (Bool)
  | 0,_=>none
  | n_37+1,v_36 =>
    bif decide (v_36 < (((x_34.Worlds).length:Int))) then
     (idx x_34.Worlds v_36).bind fun x_41 =>
     M53 x_17 x_41 (M54 v_36 (M55 x_17 x_34 k_39 n_37)) (((((x_41).length:Int)) - 0:Int).toNat+1) 0
    else
    k_39 ()
def M56 (v_12:Int) (nx_14:Int→Option (Bool)) (_:Unit):Option (Bool) :=
 nx_14 ((w64 (v_12+1)))
def M57 (q_1:TQuestion) (v_12:Int) (nx_14:Int→Option (Bool)) (x_17:TLook) (_:Unit):Option (Bool) :=
 (idx q_1.Field.Runners x_17.Runner).bind fun x_34 =>
 M55 x_17 x_34 (M56 v_12 nx_14) (((((x_34.Worlds).length:Int)) - 0:Int).toNat+1) 0
def M58 (q_1:TQuestion) (k_15:Unit→Option (Bool)):Nat→Int→Option (Bool)
  | 0,_=>none
  | n_13+1,v_12 =>
    bif decide (v_12 < (((q_1.Looks).length:Int))) then
     (idx q_1.Looks v_12).bind fun x_17 =>
     bif (decide (x_17.Runner < 0)) || ((decide (x_17.Runner≥(((q_1.Field.Runners).length:Int)))) || ((decide ((((x_17.Answers).length:Int)) < 1)) || (decide ((((x_17.Answers).length:Int)) > 4)))) then some false else
     M52 x_17 (M57 q_1 v_12 (M58 q_1 k_15 n_13) x_17) (((((x_17.Answers).length:Int)) - 0:Int).toNat+1) 0
    else
    k_15 ()
def M59 (_:Unit):Option (Bool) :=
 some true
def M60 (q_1:TQuestion):Option (Bool) :=
 Option.bind (
  (M48 q_1.Field).bind fun r_5 =>
  bif r_5 != 0 then some true else
  bif decide (q_1.Runner < 0) then some true else
  bif decide (q_1.Runner≥(((q_1.Field.Runners).length:Int))) then some true else
  some (decide ((((q_1.Looks).length:Int)) > 16))
 ) fun v_3 =>
 bif v_3 then some false else
 M58 q_1 M59 (((((q_1.Looks).length:Int)) - 0:Int).toNat+1) 0
def M61 (q_1:TQuestion):Option (Tadvice_state) :=
 (mkN 1 (((q_1.Looks).length:Int))).bind fun n_3 =>
 some ({ q:=q_1,used:=(List.replicate n_3 false) }:Tadvice_state)
def M62 (v_1:Int):Option (Option (Int)) :=
 bif v_1 == 0 then some none else
 some (some ((w64 (v_1 - 1))))
def M63 (f_1:TField) (runners_2:List Int) (k_11:Unit→Option (Int)):Nat→Int→Option (Int)
  | 0,_=>none
  | n_9+1,v_8 =>
    bif decide (v_8 < (((runners_2).length:Int))) then
     (idx runners_2 v_8).bind fun x_13 =>
     bif decide (x_13 < 0) then some 250 else
     bif decide (x_13≥(((f_1.Runners).length:Int))) then some 250 else
     (M63 f_1 runners_2 k_11 n_9) ((w64 (v_8+1)))
    else
    k_11 ()
def M64 (_:Unit):Option (Int) :=
 some 0
def M65 (f_1:TField) (runners_2:List Int):Option (Int) :=
 (M48 f_1).bind fun r_4 =>
 bif r_4 != 0 then some 240 else
 M63 f_1 runners_2 M64 (((((runners_2).length:Int)) - 0:Int).toNat+1) 0
def M66 (f_1:TField):Option (List TSegment × List (List Int) × List TPair × List TRunner) :=
 some (f_1.Clocks.Segments,f_1.Clocks.Far,f_1.Pairs,f_1.Runners)
def M67 (r_1:TRunner) (c_2:Int):Option (Bool) :=
 (idx r_1.Worlds c_2).bind fun x_4 =>
 some ((((x_4).length:Int)) == 0)
def M68 (s_1:List TRunner) (c_2:Int) (k_8:Unit→Option (Int)):Nat→Int→Option (Int)
  | 0,_=>none
  | n_6+1,v_5 =>
    bif decide (v_5 < (((s_1).length:Int))) then
     (idx s_1 v_5).bind fun x_10 =>
     (M67 x_10 c_2).bind fun r_11 =>
     bif r_11 then some v_5 else
     (M68 s_1 c_2 k_8 n_6) ((w64 (v_5+1)))
    else
    k_8 ()
def M69 (_:Unit):Option (Int) :=
 some (-1)
def M70 (s_1:List TRunner) (c_2:Int):Option (Int) :=
 M68 s_1 c_2 M69 (((((s_1).length:Int)) - 0:Int).toNat+1) 0
def M71 (s_1:List TRunner) (c_2:Int):Option (Bool) :=
 (M70 s_1 c_2).bind fun r_4 =>
 some (decide (r_4≥0))
def M72 (c_3:List TPair) (c_4:List TRunner) (k_9:Unit→Option (List Int)):Nat→Int→Option (List Int)
  | 0,_=>none
  | n_7+1,v_6 =>
    bif decide (v_6 < (w64 ((((c_3).length:Int))+1))) then
     (M71 c_4 v_6).bind fun r_11 =>
     bif !r_11 then
      Option.bind (
       (M72 c_3 c_4 k_9 n_7) ((w64 (v_6+1)))
      ) fun l=>some (v_6::l)
     else
     (M72 c_3 c_4 k_9 n_7) ((w64 (v_6+1)))
    else
    k_9 ()
def M73 (_:Unit):Option (List Int) :=
 some []
def M74 (c_1:List TSegment) (c_2:List (List Int)) (c_3:List TPair) (c_4:List TRunner):Option (List Int) :=
 M72 c_3 c_4 M73 (((w64 ((((c_3).length:Int))+1)) - 0:Int).toNat+1) 0
def M75 (x_1:TOutcome):Option (Bool) :=
 some x_1.Out
def M76 (s_1:List TOutcome) (k_7:Unit→Option (Int)):Nat→Int→Option (Int)
  | 0,_=>none
  | n_5+1,v_4 =>
    bif decide (v_4 < (((s_1).length:Int))) then
     (idx s_1 v_4).bind fun x_9 =>
     (M75 x_9).bind fun r_10 =>
     bif r_10 then some v_4 else
     (M76 s_1 k_7 n_5) ((w64 (v_4+1)))
    else
    k_7 ()
def M77 (_:Unit):Option (Int) :=
 some (-1)
def M78 (s_1:List TOutcome):Option (Int) :=
 M76 s_1 M77 (((((s_1).length:Int)) - 0:Int).toNat+1) 0
def M79 (s_1:List TOutcome):Option (Bool) :=
 (M78 s_1).bind fun r_3 =>
 some (decide (r_3≥0))
def M80:Option (Unit) :=
 some ()
def M81 (n_1:Int) (m_2:Int):Option (Bool) :=
 some (decide (n_1 < m_2))
def M82 (x_1:TOutcome):Option (Int) :=
 some x_1.Hi
def M83 (far_1:List (List Int)) (a_2:Int) (b_3:Int):Option (Int) :=
 (idx far_1 a_2).bind fun x_5 =>
 (idx x_5 b_3).bind fun x_6 =>
 some x_6
def M84 (x_1:TOutcome):Option (Int) :=
 some x_1.Lo
def M85 (s_1:List Int) (s_2:List Int) (k_8:Unit→Option (Int)):Nat→Int→Option (Int)
  | 0,_=>none
  | n_6+1,v_5 =>
    bif decide (v_5 < (((s_1).length:Int))) then
     (idx s_1 v_5).bind fun x_10 =>
     bif decide (v_5≥(((s_2).length:Int))) then some 1 else
     (idx s_2 v_5).bind fun x_12 =>
     (M6 x_10 x_12).bind fun r_13 =>
     bif r_13 != 0 then some r_13 else
     (M85 s_1 s_2 k_8 n_6) ((w64 (v_5+1)))
    else
    k_8 ()
def M86 (s_1:List Int) (s_2:List Int) (_:Unit):Option (Int) :=
 bif decide ((((s_1).length:Int)) < (((s_2).length:Int))) then some (-1) else
 some 0
def M87 (s_1:List Int) (s_2:List Int):Option (Int) :=
 M85 s_1 s_2 (M86 s_1 s_2) (((((s_1).length:Int)) - 0:Int).toNat+1) 0
def M88 (f_1:TField) (runner_2:Int) (x_3:TOutcome) (rival_4:Int) (y_5:TOutcome):Option (Bool) :=
 bif y_5.Out then some false else
 (M82 y_5).bind fun r_8 =>
 (M83 f_1.Clocks.Far ((w64 (x_3.Seg+1))) ((w64 (y_5.Seg+1)))).bind fun r_10 =>
 (M84 x_3).bind fun r_12 =>
 bif decide ((w64 ((w64 (r_8+r_10)) - r_12)) < 0) then some true else
 bif (w64 ((w64 (r_8+r_10)) - r_12)) == 0 then
  (idx f_1.Runners rival_4).bind fun x_16 =>
  (idx f_1.Runners runner_2).bind fun x_17 =>
  (M87 x_16.Keys x_17.Keys).bind fun r_18 =>
  some (decide (r_18 < 0))
 else
 some false
def M89 (f_1:TField) (runner_3:Int) (x_4:TOutcome) (rival_5:Int) (r_8:Bool) (x_11:List TOutcome) (k_16:Unit→Option (Int × Bool)):Nat→Int→Option (Int × Bool)
  | 0,_=>none
  | n_14+1,v_13 =>
    bif decide (v_13 < (((x_11).length:Int))) then
     (idx x_11 v_13).bind fun x_18 =>
     (M88 f_1 runner_3 x_4 rival_5 x_18).bind fun r_19 =>
     bif r_19 == r_8 then some (v_13,r_8) else
     (M89 f_1 runner_3 x_4 rival_5 r_8 x_11 k_16 n_14) ((w64 (v_13+1)))
    else
    k_16 ()
def M90 (r_8:Bool) (_:Unit):Option (Int × Bool) :=
 some (0,(!r_8))
def M91 (f_1:TField) (w_2:Int) (runner_3:Int) (x_4:TOutcome) (rival_5:Int):Option (Int × Bool) :=
 (M81 2 1).bind fun r_8 =>
 (idx f_1.Runners rival_5).bind fun x_10 =>
 (idx x_10.Worlds w_2).bind fun x_11 =>
 M89 f_1 runner_3 x_4 rival_5 r_8 x_11 (M90 r_8) (((((x_11).length:Int)) - 0:Int).toNat+1) 0
def M92 (f_1:TField) (runner_2:Int) (y_12:Int) (x_42:TOutcome):Nat→Int→Int→Option (Int)
  | 0,_,_=>none
  | n_48+1,n_46,v_47 =>
    bif decide (v_47 < (((f_1.Runners).length:Int))) then
     bif v_47 == runner_2 then (M92 f_1 runner_2 y_12 x_42 n_48) n_46 ((w64 (v_47+1))) else
     (M91 f_1 y_12 runner_2 x_42 v_47).bind fun (r_54,r_55) =>
     bif r_55 then (M92 f_1 runner_2 y_12 x_42 n_48) ((w64 (n_46+1))) ((w64 (v_47+1))) else
     (M92 f_1 runner_2 y_12 x_42 n_48) n_46 ((w64 (v_47+1)))
    else
    some n_46
def M93 (f_1:TField) (runner_2:Int) (y_12:Int) (x_23:List TOutcome):Nat→Int→Int→Int→Int→Bool→Option (Int × Int × Int × Bool)
  | 0,_,_,_,_,_=>none
  | n_34+1,v_29,v_30,v_31,v_32,v_33 =>
    bif decide (v_29 < (((x_23).length:Int))) then
     (idx x_23 v_29).bind fun x_42 =>
     bif x_42.Out then (M93 f_1 runner_2 y_12 x_23 n_34) ((w64 (v_29+1))) v_30 v_31 v_32 v_33 else
     (M92 f_1 runner_2 y_12 x_42 (((((f_1.Runners).length:Int)) - 0:Int).toNat+1) 1 0).bind fun n_49 =>
     Option.bind (
      bif !v_33 then some true else
      (M81 n_49 v_32).bind fun r_62 =>
      some r_62
     ) fun v_59 =>
     bif v_59 then (M93 f_1 runner_2 y_12 x_23 n_34) ((w64 (v_29+1))) y_12 v_29 n_49 true else
     (M93 f_1 runner_2 y_12 x_23 n_34) ((w64 (v_29+1))) v_30 v_31 v_32 v_33
    else
    some (v_30,v_31,v_32,v_33)
def M94 (f_1:TField) (runner_2:Int) (y:Int) (s:Int × Int × Int × Bool):Option (Int × Int × Int × Bool) :=
 match y,s with
 | y_12,(v_17,v_18,v_19,v_20) =>
  (idx f_1.Runners runner_2).bind fun x_22 =>
  (idx x_22.Worlds y_12).bind fun x_23 =>
  (M93 f_1 runner_2 y_12 x_23 (((((x_23).length:Int)) - 0:Int).toNat+1) 0 v_17 v_18 v_19 v_20).bind fun (v_35,v_36,v_37,v_38) =>
  some (v_35,v_36,v_37,v_38)
def M95 (f_1:TField) (runner_2:Int):Option (Tranks_place × Bool) :=
 (M66 f_1).bind fun (c_5,c_6,c_7,c_8) =>
 (M74 c_5 c_6 c_7 c_8).bind fun l_10 =>
 (foldO (M94 f_1 runner_2) l_10 (0,0,0,false)).bind fun (v_66,v_67,v_68,v_69) =>
 some (({ world:=v_66,outcome:=v_67,rank:=v_68 }:Tranks_place),v_69)
def M96:Option (Unit) :=
 some ()
def M97 (n_1:Int) (m_2:Int):Option (Bool) :=
 some (decide (n_1 > m_2))
def M98 (far_1:List (List Int)) (a_2:Int) (b_3:Int):Option (Int) :=
 (idx far_1 b_3).bind fun x_5 =>
 (idx x_5 a_2).bind fun x_6 =>
 some (w64 (0 - x_6))
def M99 (f_1:TField) (runner_2:Int) (x_3:TOutcome) (rival_4:Int) (y_5:TOutcome):Option (Bool) :=
 bif y_5.Out then some false else
 (M84 y_5).bind fun r_8 =>
 (M98 f_1.Clocks.Far ((w64 (x_3.Seg+1))) ((w64 (y_5.Seg+1)))).bind fun r_10 =>
 (M82 x_3).bind fun r_12 =>
 bif decide ((w64 ((w64 (r_8+r_10)) - r_12)) < 0) then some true else
 bif (w64 ((w64 (r_8+r_10)) - r_12)) == 0 then
  (idx f_1.Runners rival_4).bind fun x_16 =>
  (idx f_1.Runners runner_2).bind fun x_17 =>
  (M87 x_16.Keys x_17.Keys).bind fun r_18 =>
  some (decide (r_18 < 0))
 else
 some false
def M100 (f_1:TField) (runner_3:Int) (x_4:TOutcome) (rival_5:Int) (r_8:Bool) (x_11:List TOutcome) (k_16:Unit→Option (Int × Bool)):Nat→Int→Option (Int × Bool)
  | 0,_=>none
  | n_14+1,v_13 =>
    bif decide (v_13 < (((x_11).length:Int))) then
     (idx x_11 v_13).bind fun x_18 =>
     (M99 f_1 runner_3 x_4 rival_5 x_18).bind fun r_19 =>
     bif r_19 == r_8 then some (v_13,r_8) else
     (M100 f_1 runner_3 x_4 rival_5 r_8 x_11 k_16 n_14) ((w64 (v_13+1)))
    else
    k_16 ()
def M101 (r_8:Bool) (_:Unit):Option (Int × Bool) :=
 some (0,(!r_8))
def M102 (f_1:TField) (w_2:Int) (runner_3:Int) (x_4:TOutcome) (rival_5:Int):Option (Int × Bool) :=
 (M97 2 1).bind fun r_8 =>
 (idx f_1.Runners rival_5).bind fun x_10 =>
 (idx x_10.Worlds w_2).bind fun x_11 =>
 M100 f_1 runner_3 x_4 rival_5 r_8 x_11 (M101 r_8) (((((x_11).length:Int)) - 0:Int).toNat+1) 0
def M103 (f_1:TField) (runner_2:Int) (y_12:Int) (x_42:TOutcome):Nat→Int→Int→Option (Int)
  | 0,_,_=>none
  | n_48+1,n_46,v_47 =>
    bif decide (v_47 < (((f_1.Runners).length:Int))) then
     bif v_47 == runner_2 then (M103 f_1 runner_2 y_12 x_42 n_48) n_46 ((w64 (v_47+1))) else
     (M102 f_1 y_12 runner_2 x_42 v_47).bind fun (r_54,r_55) =>
     bif r_55 then (M103 f_1 runner_2 y_12 x_42 n_48) ((w64 (n_46+1))) ((w64 (v_47+1))) else
     (M103 f_1 runner_2 y_12 x_42 n_48) n_46 ((w64 (v_47+1)))
    else
    some n_46
def M104 (f_1:TField) (runner_2:Int) (y_12:Int) (x_23:List TOutcome):Nat→Int→Int→Int→Int→Bool→Option (Int × Int × Int × Bool)
  | 0,_,_,_,_,_=>none
  | n_34+1,v_29,v_30,v_31,v_32,v_33 =>
    bif decide (v_29 < (((x_23).length:Int))) then
     (idx x_23 v_29).bind fun x_42 =>
     bif x_42.Out then (M104 f_1 runner_2 y_12 x_23 n_34) ((w64 (v_29+1))) v_30 v_31 v_32 v_33 else
     (M103 f_1 runner_2 y_12 x_42 (((((f_1.Runners).length:Int)) - 0:Int).toNat+1) 1 0).bind fun n_49 =>
     Option.bind (
      bif !v_33 then some true else
      (M97 n_49 v_32).bind fun r_62 =>
      some r_62
     ) fun v_59 =>
     bif v_59 then (M104 f_1 runner_2 y_12 x_23 n_34) ((w64 (v_29+1))) y_12 v_29 n_49 true else
     (M104 f_1 runner_2 y_12 x_23 n_34) ((w64 (v_29+1))) v_30 v_31 v_32 v_33
    else
    some (v_30,v_31,v_32,v_33)
def M105 (f_1:TField) (runner_2:Int) (y:Int) (s:Int × Int × Int × Bool):Option (Int × Int × Int × Bool) :=
 match y,s with
 | y_12,(v_17,v_18,v_19,v_20) =>
  (idx f_1.Runners runner_2).bind fun x_22 =>
  (idx x_22.Worlds y_12).bind fun x_23 =>
  (M104 f_1 runner_2 y_12 x_23 (((((x_23).length:Int)) - 0:Int).toNat+1) 0 v_17 v_18 v_19 v_20).bind fun (v_35,v_36,v_37,v_38) =>
  some (v_35,v_36,v_37,v_38)
def M106 (f_1:TField) (runner_2:Int):Option (Tranks_place × Bool) :=
 (M66 f_1).bind fun (c_5,c_6,c_7,c_8) =>
 (M74 c_5 c_6 c_7 c_8).bind fun l_10 =>
 (foldO (M105 f_1 runner_2) l_10 (0,0,0,false)).bind fun (v_66,v_67,v_68,v_69) =>
 some (({ world:=v_66,outcome:=v_67,rank:=v_68 }:Tranks_place),v_69)
def M107 (f_1:TField) (runner_2:Int) (y:Int) (s:Bool):Option (Bool) :=
 match y,s with
 | y_12,v_14 =>
  bif v_14 then some true else
  (idx f_1.Runners runner_2).bind fun x_17 =>
  (idx x_17.Worlds y_12).bind fun x_18 =>
  (M79 x_18).bind fun r_19 =>
  some r_19
def M108 (f_1:TField) (runner_2:Int):Option (TRank) :=
 (idx f_1.Runners runner_2).bind fun x_4 =>
 (M66 f_1).bind fun (c_5,c_6,c_7,c_8) =>
 (M74 c_5 c_6 c_7 c_8).bind fun l_10 =>
 (foldO (M107 f_1 runner_2) l_10 (false)).bind fun v_21 =>
 (M80).bind fun _ =>
 (M95 f_1 runner_2).bind fun (r_23,r_24) =>
 bif !r_24 then some ({ Bib:=x_4.Bib,Kind:=3,Lo:=0,Hi:=0,Out:=v_21 }:TRank) else
 (M96).bind fun _ =>
 (M106 f_1 runner_2).bind fun (r_28,r_29) =>
 bif r_23.rank == r_28.rank then
  bif !v_21 then some ({ Bib:=x_4.Bib,Kind:=1,Lo:=r_23.rank,Hi:=r_28.rank,Out:=v_21 }:TRank) else
  some ({ Bib:=x_4.Bib,Kind:=2,Lo:=r_23.rank,Hi:=r_28.rank,Out:=v_21 }:TRank)
 else
 some ({ Bib:=x_4.Bib,Kind:=2,Lo:=r_23.rank,Hi:=r_28.rank,Out:=v_21 }:TRank)
def M109 (f_1:TField) (runner_2:Int):Option (TRank × Int) :=
 (M65 f_1 ((([runner_2]:List Int)))).bind fun r_5 =>
 bif r_5 != 0 then some (({ Bib:=0,Kind:=0,Lo:=0,Hi:=0,Out:=false }:TRank),r_5) else
 (M108 f_1 runner_2).bind fun r_8 =>
 some (r_8,0)
def M110 (s_1:Tadvice_state):Option (Bool) :=
 (M109 s_1.q.Field s_1.q.Runner).bind fun (r_3,r_4) =>
 bif r_4 == 0 then some (r_3.Kind != 2) else
 some false
def M111 (s_1:List Bool):Option (List Bool) :=
 (app 1 (([]:List Bool)) s_1).bind fun l_4 =>
 some l_4
def M112 (s_1:List TRunner):Option (List TRunner) :=
 (app 56 (([]:List TRunner)) s_1).bind fun l_4 =>
 some l_4
def M113 (x_7:TSpan) (x_21:List TOutcome):Nat→Int→(List TOutcome)→Option (List TOutcome)
  | 0,_,_=>none
  | n_26+1,v_24,l_25 =>
    bif decide (v_24 < (((x_21).length:Int))) then
     (idx x_21 v_24).bind fun x_31 =>
     bif decide ((maxG x_31.Lo x_7.Lo)≤(minG x_31.Hi x_7.Hi)) then
      (app 32 l_25 (([({ Out:=x_31.Out,Seg:=x_31.Seg,Lo:=(maxG x_31.Lo x_7.Lo),Hi:=(minG x_31.Hi x_7.Hi) }:TOutcome)]:List TOutcome))).bind fun l_33 =>
      (M113 x_7 x_21 n_26) ((w64 (v_24+1))) l_33
     else
     (M113 x_7 x_21 n_26) ((w64 (v_24+1))) l_25
    else
    some l_25
def M114 (x_7:TSpan) (x_11:TRunner):Nat→Int→(List (List TOutcome))→Option (List (List TOutcome))
  | 0,_,_=>none
  | n_16+1,v_14,l_15 =>
    bif decide (v_14 < (((x_11.Worlds).length:Int))) then
     (idx x_11.Worlds v_14).bind fun x_21 =>
     (M113 x_7 x_21 (((((x_21).length:Int)) - 0:Int).toNat+1) 0 ((([]:List TOutcome)))).bind fun l_27 =>
     (app 24 l_15 (([l_27]:List (List TOutcome)))).bind fun l_35 =>
     (M114 x_7 x_11 n_16) ((w64 (v_14+1))) l_35
    else
    some l_15
def M115 (s_1:Tadvice_state) (look_2:Int) (answer_3:Int):Option (Tadvice_state × Bool) :=
 (idx s_1.q.Looks look_2).bind fun x_6 =>
 (idx x_6.Answers answer_3).bind fun x_7 =>
 (M111 s_1.used).bind fun l_8 =>
 (idx l_8 look_2).bind fun x_9 =>
 (M112 s_1.q.Field.Runners).bind fun l_10 =>
 (idx l_10 x_6.Runner).bind fun x_11 =>
 (M114 x_7 x_11 (((((x_11.Worlds).length:Int)) - 0:Int).toNat+1) 0 ((([]:List (List TOutcome))))).bind fun l_17 =>
 (idx l_10 x_6.Runner).bind fun x_37 =>
 (M48 (({ Clocks:=s_1.q.Field.Clocks,Pairs:=s_1.q.Field.Pairs,Runners:=(List.set l_10 (Int.toNat x_6.Runner) ({ Bib:=x_37.Bib,Keys:=x_37.Keys,Worlds:=l_17 }:TRunner)) }:TField))).bind fun r_38 =>
 some (({ q:=({ Field:=({ Clocks:=s_1.q.Field.Clocks,Pairs:=s_1.q.Field.Pairs,Runners:=(List.set l_10 (Int.toNat x_6.Runner) ({ Bib:=x_37.Bib,Keys:=x_37.Keys,Worlds:=l_17 }:TRunner)) }:TField),Runner:=s_1.q.Runner,Looks:=s_1.q.Looks }:TQuestion),used:=(List.set l_8 (Int.toNat look_2) true) }:Tadvice_state),(r_38 == 0))
def M116 (s_1:Tadvice_state) (left_2:Int) (v_4:List TSegment) (v_5:List (List Int)) (v_6:List TPair) (v_7:List TRunner) (v_8:Int) (v_9:List TLook) (v_21:Int) (nx_25:Int→Int→Option (Option (Bool × Int))) (x_28:TLook) (rc_9027:Tadvice_state→Int→Int→(List TSegment)→(List (List Int))→(List TPair)→(List TRunner)→Int→(List TLook)→Option (Option (Bool × Int))) (k_38:Int→Option (Option (Bool × Int))):Nat→Int→Int→Option (Option (Bool × Int))
  | 0,_,_=>none
  | n_35+1,v_33,v_34 =>
    bif decide (v_33 < (((x_28.Answers).length:Int))) then
     (M115 s_1 v_21 v_33).bind fun (r_40,r_41) =>
     bif r_41 then
      (rc_9027 r_40 ((w64 (left_2 - 1))) v_34 v_4 v_5 v_6 v_7 v_8 v_9).bind fun q=>onP q (
       some none
      ) fun (r_44,b_45) =>
      bif !r_44 then nx_25 ((w64 (v_21+1))) b_45 else
      (M116 s_1 left_2 v_4 v_5 v_6 v_7 v_8 v_9 v_21 nx_25 x_28 rc_9027 k_38 n_35) ((w64 (v_33+1))) b_45
     else
     (M116 s_1 left_2 v_4 v_5 v_6 v_7 v_8 v_9 v_21 nx_25 x_28 rc_9027 k_38 n_35) ((w64 (v_33+1))) v_34
    else
    k_38 v_34
def M117 (v_36:Int):Option (Option (Bool × Int)) :=
 some (some (true,v_36))
def M118 (s_1:Tadvice_state) (left_2:Int) (v_4:List TSegment) (v_5:List (List Int)) (v_6:List TPair) (v_7:List TRunner) (v_8:Int) (v_9:List TLook) (rc_9027:Tadvice_state→Int→Int→(List TSegment)→(List (List Int))→(List TPair)→(List TRunner)→Int→(List TLook)→Option (Option (Bool × Int))) (k_26:Int→Option (Option (Bool × Int))):Nat→Int→Int→Option (Option (Bool × Int))
  | 0,_,_=>none
  | n_23+1,v_21,v_22 =>
    bif decide (v_21 < (((v_9).length:Int))) then
     (idx v_9 v_21).bind fun x_28 =>
     (idx s_1.used v_21).bind fun x_29 =>
     bif x_29 then (M118 s_1 left_2 v_4 v_5 v_6 v_7 v_8 v_9 rc_9027 k_26 n_23) ((w64 (v_21+1))) v_22 else
     M116 s_1 left_2 v_4 v_5 v_6 v_7 v_8 v_9 v_21 (M118 s_1 left_2 v_4 v_5 v_6 v_7 v_8 v_9 rc_9027 k_26 n_23) x_28 rc_9027 M117 (((((x_28.Answers).length:Int)) - 0:Int).toNat+1) 0 v_22
    else
    k_26 v_22
def M119 (v_24:Int):Option (Option (Bool × Int)) :=
 some (some (false,v_24))
def M120 (rc_9027:Tadvice_state→Int→Int→(List TSegment)→(List (List Int))→(List TPair)→(List TRunner)→Int→(List TLook)→Option (Option (Bool × Int))) (s_1:Tadvice_state) (left_2:Int) (v_3:Int) (v_4:List TSegment) (v_5:List (List Int)) (v_6:List TPair) (v_7:List TRunner) (v_8:Int) (v_9:List TLook):Option (Option (Bool × Int)) :=
 (M62 v_3).bind fun q=>onP q (
  some none
 ) fun b_12 =>
 (M110 s_1).bind fun r_15 =>
 bif r_15 then some (some (true,b_12)) else
 bif left_2 == 0 then some (some (false,b_12)) else
 M118 s_1 left_2 v_4 v_5 v_6 v_7 v_8 v_9 rc_9027 M119 (((((v_9).length:Int)) - 0:Int).toNat+1) 0 b_12
def M121:Nat→Tadvice_state→Int→Int→(List TSegment)→(List (List Int))→(List TPair)→(List TRunner)→Int→(List TLook)→Option (Option (Bool × Int))
 | 0=>fun _ _ _ _ _ _ _ _ _=>none
 | n+1=>M120 (M121 n)
def M122 (q_1:TQuestion) (looks_2:Int) (budget_3:Int):Option (Bool × Int) :=
 (M60 q_1).bind fun r_6 =>
 bif !r_6 then some (false,360) else
 bif (decide (looks_2 < 0)) || ((decide (looks_2 > 6)) || ((decide (budget_3 < 0)) || (decide (budget_3 > 1073741824)))) then some (false,1) else
 (M61 q_1).bind fun r_14 =>
 (M121 1000 r_14 looks_2 budget_3 q_1.Field.Clocks.Segments q_1.Field.Clocks.Far q_1.Field.Pairs q_1.Field.Runners q_1.Runner q_1.Looks).bind fun q=>onP q (
  some (false,3)
 ) fun (r_16,b_17) =>
 some (r_16,0)
def M123 (p_1:TPlan) (rc_9059:TPlan→Option (Int)):Nat→Int→Int→Option (Int)
  | 0,_,_=>none
  | n_8+1,n_6,v_7 =>
    bif decide (v_7 < (((p_1.After).length:Int))) then
     (idx p_1.After v_7).bind fun x_13 =>
     (uTPlan x_13).bind fun p_14 =>
     (rc_9059 p_14).bind fun r_15 =>
     (M123 p_1 rc_9059 n_8) (maxG n_6 r_15) ((w64 (v_7+1)))
    else
    some n_6
def M124 (rc_9059:TPlan→Option (Int)) (p_1:TPlan):Option (Int) :=
 bif decide (p_1.Look < 0) then some 0 else
 (M123 p_1 rc_9059 (((((p_1.After).length:Int)) - 0:Int).toNat+1) 0 0).bind fun n_9 =>
 some (w64 (n_9+1))
def M125:Nat→TPlan→Option (Int)
 | 0=>fun _=>none
 | n+1=>M124 (M125 n)
def M126 (s_1:Tadvice_state) (p_2:TPlan) (v_3:List TSegment) (v_4:List (List Int)) (v_5:List TPair) (v_6:List TRunner) (v_7:Int) (v_8:List TLook) (rc_9060:Tadvice_state→TPlan→(List TSegment)→(List (List Int))→(List TPair)→(List TRunner)→Int→(List TLook)→Option (Bool)) (k_26:Unit→Option (Bool)):Nat→Int→Option (Bool)
  | 0,_=>none
  | n_24+1,v_23 =>
    bif decide (v_23 < (((p_2.After).length:Int))) then
     (idx p_2.After v_23).bind fun x_28 =>
     (uTPlan x_28).bind fun p_29 =>
     (M115 s_1 p_2.Look v_23).bind fun (r_30,r_31) =>
     Option.bind (
      bif !r_31 then
       bif p_29.Look != (-1) then some true else
       bif decide ((((p_29.After).length:Int)) > 0) then some true else
       some false
      else
      (rc_9060 r_30 p_29 v_3 v_4 v_5 v_6 v_7 v_8).bind fun r_38 =>
      some (!r_38)
     ) fun v_33 =>
     bif v_33 then some false else
     (M126 s_1 p_2 v_3 v_4 v_5 v_6 v_7 v_8 rc_9060 k_26 n_24) ((w64 (v_23+1)))
    else
    k_26 ()
def M127 (_:Unit):Option (Bool) :=
 some true
def M128 (rc_9060:Tadvice_state→TPlan→(List TSegment)→(List (List Int))→(List TPair)→(List TRunner)→Int→(List TLook)→Option (Bool)) (s_1:Tadvice_state) (p_2:TPlan) (v_3:List TSegment) (v_4:List (List Int)) (v_5:List TPair) (v_6:List TRunner) (v_7:Int) (v_8:List TLook):Option (Bool) :=
 bif p_2.Look == (-1) then
  bif (((p_2.After).length:Int)) == 0 then
   (M110 s_1).bind fun r_12 =>
   some r_12
  else
  some false
 else
 Option.bind (
  bif decide (p_2.Look < 0) then some true else
  bif decide (p_2.Look≥(((v_8).length:Int))) then some true else
  (idx s_1.used p_2.Look).bind fun x_18 =>
  bif x_18 then some true else
  (idx v_8 p_2.Look).bind fun x_20 =>
  some ((((p_2.After).length:Int)) != (((x_20.Answers).length:Int)))
 ) fun v_14 =>
 bif v_14 then some false else
 M126 s_1 p_2 v_3 v_4 v_5 v_6 v_7 v_8 rc_9060 M127 (((((p_2.After).length:Int)) - 0:Int).toNat+1) 0
def M129:Nat→Tadvice_state→TPlan→(List TSegment)→(List (List Int))→(List TPair)→(List TRunner)→Int→(List TLook)→Option (Bool)
 | 0=>fun _ _ _ _ _ _ _ _=>none
 | n+1=>M128 (M129 n)
def M130 (q_1:TQuestion) (p_2:TPlan):Option (Int) :=
 (M60 q_1).bind fun r_4 =>
 bif !r_4 then some 360 else
 (M125 1000 p_2).bind fun r_7 =>
 bif decide (r_7 > 6) then some 370 else
 (M61 q_1).bind fun r_10 =>
 (M129 1000 r_10 p_2 q_1.Field.Clocks.Segments q_1.Field.Clocks.Far q_1.Field.Pairs q_1.Field.Runners q_1.Runner q_1.Looks).bind fun r_12 =>
 bif !r_12 then some 370 else
 some 0
def M131:Option (Bool) :=
 (M0).bind fun r_2 =>
 (M3 (({ Look:=0,After:=(([(pTPlan ({ Look:=(-1),After:=(([]:List TPlan0)) }:TPlan)),(pTPlan ({ Look:=(-1),After:=(([]:List TPlan0)) }:TPlan))]:List TPlan0)) }:TPlan)) ((([]:List Int)))).bind fun (r_4,r_5) =>
 (M3 (({ Look:=(-1),After:=(([]:List TPlan0)) }:TPlan)) ((([0]:List Int)))).bind fun (r_7,r_8) =>
 (M122 r_2 1 100).bind fun (r_10,r_11) =>
 (M122 r_2 0 100).bind fun (r_13,r_14) =>
 (M122 r_2 7 1).bind fun (r_16,r_17) =>
 (M122 r_2 1 0).bind fun (r_19,r_20) =>
 Option.bind (
  (M130 r_2 (({ Look:=0,After:=(([(pTPlan ({ Look:=(-1),After:=(([]:List TPlan0)) }:TPlan)),(pTPlan ({ Look:=(-1),After:=(([]:List TPlan0)) }:TPlan))]:List TPlan0)) }:TPlan))).bind fun r_24 =>
  bif r_24 == 0 then
   (M130 r_2 (({ Look:=(-1),After:=(([]:List TPlan0)) }:TPlan))).bind fun r_27 =>
   bif r_27 == 370 then
    (M130 (({ Field:=({ Clocks:=({ Segments:=(([]:List TSegment)),Far:=(([]:List (List Int))) }:TClocks),Pairs:=(([]:List TPair)),Runners:=(([]:List TRunner)) }:TField),Runner:=0,Looks:=(([]:List TLook)) }:TQuestion)) (({ Look:=(-1),After:=(([]:List TPlan0)) }:TPlan))).bind fun r_30 =>
    bif r_30 == 360 then
     (M125 1000 (({ Look:=(-1),After:=(([]:List TPlan0)) }:TPlan))).bind fun r_33 =>
     bif r_33 == 0 then
      (M125 1000 (({ Look:=0,After:=(([(pTPlan ({ Look:=(-1),After:=(([]:List TPlan0)) }:TPlan)),(pTPlan ({ Look:=(-1),After:=(([]:List TPlan0)) }:TPlan))]:List TPlan0)) }:TPlan))).bind fun r_36 =>
      some (r_36 == 1)
     else
     some false
    else
    some false
   else
   some false
  else
  some false
 ) fun one_22 =>
 some (one_22 && (r_5 && ((r_4 == 0) && ((!r_8) && (r_10 && ((r_11 == 0) && ((!r_13) && ((r_14 == 0) && ((r_17 == 1) && (r_20 == 3))))))))))
def M132 (x_9:TRunner) (k_16:Unit→Option (Bool)):Nat→Int→Option (Bool)
  | 0,_=>none
  | n_14+1,w_13 =>
    bif decide (w_13 < (((x_9.Worlds).length:Int))) then
     (idx x_9.Worlds w_13).bind fun x_18 =>
     bif decide ((((x_18).length:Int)) > 4) then some false else
     (M132 x_9 k_16 n_14) ((w64 (w_13+1)))
    else
    k_16 ()
def M133 (i_4:Int) (nx_6:Int→Option (Bool)) (_:Unit):Option (Bool) :=
 nx_6 ((w64 (i_4+1)))
def M134 (f_1:TField) (k_7:Unit→Option (Bool)):Nat→Int→Option (Bool)
  | 0,_=>none
  | n_5+1,i_4 =>
    bif decide (i_4 < (((f_1.Runners).length:Int))) then
     (idx f_1.Runners i_4).bind fun x_9 =>
     bif decide ((((x_9.Keys).length:Int)) > 5) then some false else
     bif decide ((((x_9.Worlds).length:Int)) > 4) then some false else
     M132 x_9 (M133 i_4 (M134 f_1 k_7 n_5)) (((((x_9.Worlds).length:Int)) - 0:Int).toNat+1) 0
    else
    k_7 ()
def M135 (f_1:TField) (k_24:Unit→Option (Bool)):Nat→Int→Option (Bool)
  | 0,_=>none
  | n_22+1,i_21 =>
    bif decide (i_21 < (((f_1.Clocks.Far).length:Int))) then
     (idx f_1.Clocks.Far i_21).bind fun x_26 =>
     bif decide ((((x_26).length:Int)) > 8) then some false else
     (M135 f_1 k_24 n_22) ((w64 (i_21+1)))
    else
    k_24 ()
def M136 (f_1:TField) (_:Unit):Option (Bool) :=
 some ((decide ((((f_1.Runners).length:Int))≤6)) && ((decide ((((f_1.Pairs).length:Int))≤3)) && ((decide ((((f_1.Clocks.Segments).length:Int))≤4)) && (decide ((((f_1.Clocks.Far).length:Int))≤6)))))
def M137 (f_1:TField) (_:Unit):Option (Bool) :=
 M135 f_1 (M136 f_1) (((((f_1.Clocks.Far).length:Int)) - 0:Int).toNat+1) 0
def M138 (f_1:TField):Option (Bool) :=
 M134 f_1 (M137 f_1) (((((f_1.Runners).length:Int)) - 0:Int).toNat+1) 0
def M139 (p_1:TPlan) (depth_2:Int) (rc_9063:TPlan→Int→Option (Int)):Nat→Int→Int→Option (Int)
  | 0,_,_=>none
  | n_9+1,n_7,i_8 =>
    bif decide (i_8 < (((p_1.After).length:Int))) then
     bif decide (n_7 < 1000) then
      (idx p_1.After i_8).bind fun x_15 =>
      (uTPlan x_15).bind fun p_16 =>
      (rc_9063 p_16 ((w64 (depth_2+1)))).bind fun r_17 =>
      (M139 p_1 depth_2 rc_9063 n_9) ((w64 (n_7+r_17))) ((w64 (i_8+1)))
     else
     some n_7
    else
    some n_7
def M140 (rc_9063:TPlan→Int→Option (Int)) (p_1:TPlan) (depth_2:Int):Option (Int) :=
 bif decide (depth_2 > 30) then some 1000 else
 (M139 p_1 depth_2 rc_9063 (((((p_1.After).length:Int)) - 0:Int).toNat+1) 1 0).bind fun n_10 =>
 some n_10
def M141:Nat→TPlan→Int→Option (Int)
 | 0=>fun _ _=>none
 | n+1=>M140 (M141 n)
def M142 (q_1:TQuestion) (k_8:Unit→Option (Bool)):Nat→Int→Option (Bool)
  | 0,_=>none
  | n_6+1,i_5 =>
    bif decide (i_5 < (((q_1.Looks).length:Int))) then
     (idx q_1.Looks i_5).bind fun x_10 =>
     bif decide ((((x_10.Answers).length:Int)) > 6) then some false else
     (M142 q_1 k_8 n_6) ((w64 (i_5+1)))
    else
    k_8 ()
def M143 (q_1:TQuestion) (p_2:TPlan) (_:Unit):Option (Bool) :=
 (M138 q_1.Field).bind fun r_12 =>
 bif r_12 then
  bif decide ((((q_1.Looks).length:Int))≤4) then
   (M141 1000 p_2 0).bind fun r_16 =>
   some (decide (r_16≤100))
  else
  some false
 else
 some false
def M144 (q_1:TQuestion) (p_2:TPlan):Option (Bool) :=
 M142 q_1 (M143 q_1 p_2) (((((q_1.Looks).length:Int)) - 0:Int).toNat+1) 0
def M145 (n_1:Int):Option (Bool) :=
 bif decide (n_1≥(-1099511627776)) then some (decide (n_1≤1099511627776)) else
 some false
def M146 (a_1:TSegment) (b_2:TSegment):Option (Bool) :=
 bif decide (a_1.Mat < b_2.Mat) then some true else
 bif a_1.Mat == b_2.Mat then some (decide (a_1.Epoch < b_2.Epoch)) else
 some false
def M147 (k_1:TClocks) (k_9:Unit→Option (Int)):Nat→Int→Option (Int)
  | 0,_=>none
  | n_7+1,i_6 =>
    bif decide (i_6 < (((k_1.Segments).length:Int))) then
     (idx k_1.Segments i_6).bind fun x_11 =>
     Option.bind (
      bif decide (x_11.Mat < 0) then some true else
      bif decide (x_11.Mat≥40) then some true else
      bif decide (x_11.Epoch < 0) then some true else
      bif decide (x_11.Epoch > 255) then some true else
      (M145 x_11.Anchor).bind fun r_18 =>
      bif !r_18 then some true else
      bif decide (i_6 > 0) then
       (idx k_1.Segments (w64 (i_6 - 1))).bind fun x_22 =>
       (M146 x_22 x_11).bind fun r_23 =>
       some (!r_23)
      else
      some false
     ) fun v_12 =>
     bif v_12 then some 160 else
     (M147 k_1 k_9 n_7) ((w64 (i_6+1)))
    else
    k_9 ()
def M148 (k_1:TClocks) (i_27:Int) (k_41:Unit→Option (Int)):Nat→Int→Option (Int)
  | 0,_=>none
  | n_39+1,j_38 =>
    bif decide (j_38≤(((k_1.Segments).length:Int))) then
     (idx k_1.Far i_27).bind fun x_43 =>
     (idx x_43 j_38).bind fun x_44 =>
     bif decide (x_44 < (-2199023255552)) then some 160 else
     (idx k_1.Far i_27).bind fun x_46 =>
     (idx x_46 j_38).bind fun x_47 =>
     bif decide (x_47 > 2199023255552) then some 160 else
     (M148 k_1 i_27 k_41 n_39) ((w64 (j_38+1)))
    else
    k_41 ()
def M149 (i_27:Int) (nx_29:Int→Option (Int)) (_:Unit):Option (Int) :=
 nx_29 ((w64 (i_27+1)))
def M150 (k_1:TClocks) (k_30:Unit→Option (Int)):Nat→Int→Option (Int)
  | 0,_=>none
  | n_28+1,i_27 =>
    bif decide (i_27≤(((k_1.Segments).length:Int))) then
     (idx k_1.Far i_27).bind fun x_32 =>
     bif (((x_32).length:Int)) != (w64 ((((k_1.Segments).length:Int))+1)) then some 160 else
     (idx k_1.Far i_27).bind fun x_34 =>
     (idx x_34 i_27).bind fun x_35 =>
     bif x_35 != 0 then some 160 else
     M148 k_1 i_27 (M149 i_27 (M150 k_1 k_30 n_28)) (((((k_1.Segments).length:Int))+1 - 0:Int).toNat+1) 0
    else
    k_30 ()
def M151 (k_1:TClocks) (i_50:Int) (j_56:Int) (k_65:Unit→Option (Int)):Nat→Int→Option (Int)
  | 0,_=>none
  | n_63+1,m_62 =>
    bif decide (m_62≤(((k_1.Segments).length:Int))) then
     (idx k_1.Far i_50).bind fun x_67 =>
     (idx x_67 m_62).bind fun x_68 =>
     (idx k_1.Far i_50).bind fun x_69 =>
     (idx x_69 j_56).bind fun x_70 =>
     (idx k_1.Far j_56).bind fun x_71 =>
     (idx x_71 m_62).bind fun x_72 =>
     bif decide (x_68 > (w64 (x_70+x_72))) then some 160 else
     (M151 k_1 i_50 j_56 k_65 n_63) ((w64 (m_62+1)))
    else
    k_65 ()
def M152 (j_56:Int) (nx_58:Int→Option (Int)) (_:Unit):Option (Int) :=
 nx_58 ((w64 (j_56+1)))
def M153 (k_1:TClocks) (i_50:Int) (k_59:Unit→Option (Int)):Nat→Int→Option (Int)
 | 0,_=>none
 | n_57+1,j_56 =>
  bif decide (j_56≤(((k_1.Segments).length:Int))) then M151 k_1 i_50 j_56 (M152 j_56 (M153 k_1 i_50 k_59 n_57)) (((((k_1.Segments).length:Int))+1 - 0:Int).toNat+1) 0 else
  k_59 ()
def M154 (i_50:Int) (nx_52:Int→Option (Int)) (_:Unit):Option (Int) :=
 nx_52 ((w64 (i_50+1)))
def M155 (k_1:TClocks) (k_53:Unit→Option (Int)):Nat→Int→Option (Int)
 | 0,_=>none
 | n_51+1,i_50 =>
  bif decide (i_50≤(((k_1.Segments).length:Int))) then M153 k_1 i_50 (M154 i_50 (M155 k_1 k_53 n_51)) (((((k_1.Segments).length:Int))+1 - 0:Int).toNat+1) 0 else
  k_53 ()
def M156 (_:Unit):Option (Int) :=
 some 0
def M157 (k_1:TClocks) (_:Unit):Option (Int) :=
 M155 k_1 M156 (((((k_1.Segments).length:Int))+1 - 0:Int).toNat+1) 0
def M158 (k_1:TClocks) (_:Unit):Option (Int) :=
 M150 k_1 (M157 k_1) (((((k_1.Segments).length:Int))+1 - 0:Int).toNat+1) 0
def M159 (k_1:TClocks):Option (Int) :=
 bif decide ((((k_1.Segments).length:Int)) > 511) then some 160 else
 bif (((k_1.Far).length:Int)) != (w64 ((((k_1.Segments).length:Int))+1)) then some 160 else
 M147 k_1 (M158 k_1) (((((k_1.Segments).length:Int)) - 0:Int).toNat+1) 0
def M160 (n_1:Int) (least_2:Int) (most_3:Int):Option (Bool) :=
 bif decide (n_1≥least_2) then some (decide (n_1≤most_3)) else
 some false
def M161 (n_1:Int):Option (Bool) :=
 (M160 n_1 1 9999).bind fun r_3 =>
 some r_3
def M162 (k_1:TClocks) (x_2:TOutcome):Option (Int) :=
 (M159 k_1).bind fun r_4 =>
 bif r_4 != 0 then some r_4 else
 bif bif x_2.Out then ((x_2.Seg != (-1)) || ((x_2.Lo != 0) || (x_2.Hi != 0))) else ((decide (x_2.Seg < (-1))) || ((decide (x_2.Seg≥(((k_1.Segments).length:Int)))) || ((decide (x_2.Lo < (-288230376151711744))) || ((decide (x_2.Lo > x_2.Hi)) || (decide (x_2.Hi > 288230376151711744)))))) then some 230 else
 some 0
def M163 (f_1:TField) (world_2:Int) (k_8:Unit→Option (Bool)):Nat→Int→Option (Bool)
  | 0,_=>none
  | n_6+1,i_5 =>
    bif decide (i_5 < (((f_1.Runners).length:Int))) then
     bif decide (world_2 < 0) then some false else
     (idx f_1.Runners i_5).bind fun x_11 =>
     bif decide (world_2≥(((x_11.Worlds).length:Int))) then some false else
     (idx f_1.Runners i_5).bind fun x_13 =>
     (idx x_13.Worlds world_2).bind fun x_14 =>
     bif (((x_14).length:Int)) == 0 then some false else
     (M163 f_1 world_2 k_8 n_6) ((w64 (i_5+1)))
    else
    k_8 ()
def M164 (_:Unit):Option (Bool) :=
 some true
def M165 (f_1:TField) (world_2:Int):Option (Bool) :=
 M163 f_1 world_2 M164 (((((f_1.Runners).length:Int)) - 0:Int).toNat+1) 0
def M166 (f_1:TField) (k_7:Unit→Option (Bool)):Nat→Int→Option (Bool)
  | 0,_=>none
  | n_5+1,w_4 =>
    bif decide (w_4≤(((f_1.Pairs).length:Int))) then
     (M165 f_1 w_4).bind fun r_9 =>
     bif r_9 then some true else
     (M166 f_1 k_7 n_5) ((w64 (w_4+1)))
    else
    k_7 ()
def M167 (_:Unit):Option (Bool) :=
 some false
def M168 (f_1:TField):Option (Bool) :=
 M166 f_1 M167 (((((f_1.Pairs).length:Int))+1 - 0:Int).toNat+1) 0
def M169 (f_1:TField) (k_15:Unit→Option (Int)):Nat→Int→Option (Int)
  | 0,_=>none
  | n_13+1,i_12 =>
    bif decide (i_12 < (((f_1.Pairs).length:Int))) then
     (idx f_1.Pairs i_12).bind fun x_17 =>
     bif decide (x_17.A < 1) then some 240 else
     bif decide (x_17.A≥x_17.B) then some 240 else
     bif decide (x_17.B > 9999) then some 240 else
     Option.bind (
      bif decide (i_12 > 0) then
       (idx f_1.Pairs (w64 (i_12 - 1))).bind fun x_24 =>
       bif decide (x_24.A > x_17.A) then some true else
       (idx f_1.Pairs (w64 (i_12 - 1))).bind fun x_26 =>
       bif x_26.A == x_17.A then
        (idx f_1.Pairs (w64 (i_12 - 1))).bind fun x_28 =>
        some (decide (x_28.B≥x_17.B))
       else
       some false
      else
      some false
     ) fun v_21 =>
     bif v_21 then some 240 else
     (M169 f_1 k_15 n_13) ((w64 (i_12+1)))
    else
    k_15 ()
def M170 (f_1:TField) (x_36:TRunner) (w_51:Int) (k_60:Unit→Option (Int)):Nat→Int→Option (Int)
  | 0,_=>none
  | n_58+1,n_57 =>
    (idx x_36.Worlds w_51).bind fun x_61 =>
    bif decide (n_57 < (((x_61).length:Int))) then
     (idx x_36.Worlds w_51).bind fun x_63 =>
     (idx x_63 n_57).bind fun x_64 =>
     (M162 f_1.Clocks x_64).bind fun r_65 =>
     bif r_65 != 0 then some 240 else
     (M170 f_1 x_36 w_51 k_60 n_58) ((w64 (n_57+1)))
    else
    k_60 ()
def M171 (w_51:Int) (nx_53:Int→Option (Int)) (_:Unit):Option (Int) :=
 nx_53 ((w64 (w_51+1)))
def M172 (f_1:TField) (x_36:TRunner) (k_54:Unit→Option (Int)):Nat→Int→Option (Int)
 | 0,_=>none
 | n_52+1,w_51 =>
  bif decide (w_51 < (((x_36.Worlds).length:Int))) then M170 f_1 x_36 w_51 (M171 w_51 (M172 f_1 x_36 k_54 n_52)) ((((((Option.getD (idx x_36.Worlds w_51) default)).length:Int)) - 0:Int).toNat+1) 0 else
  k_54 ()
def M173 (i_31:Int) (nx_33:Int→Option (Int)) (_:Unit):Option (Int) :=
 nx_33 ((w64 (i_31+1)))
def M174 (f_1:TField) (k_34:Unit→Option (Int)):Nat→Int→Option (Int)
  | 0,_=>none
  | n_32+1,i_31 =>
    bif decide (i_31 < (((f_1.Runners).length:Int))) then
     (idx f_1.Runners i_31).bind fun x_36 =>
     Option.bind (
      (M161 x_36.Bib).bind fun r_39 =>
      bif !r_39 then some true else
      bif decide (i_31 > 0) then
       (idx f_1.Runners (w64 (i_31 - 1))).bind fun x_43 =>
       bif decide (x_43.Bib≥x_36.Bib) then some true else
       (idx f_1.Runners 0).bind fun x_45 =>
       bif (((x_36.Keys).length:Int)) != (((x_45.Keys).length:Int)) then some true else
       some ((((x_36.Worlds).length:Int)) != (w64 ((((f_1.Pairs).length:Int))+1)))
      else
      (idx f_1.Runners 0).bind fun x_47 =>
      bif (((x_36.Keys).length:Int)) != (((x_47.Keys).length:Int)) then some true else
      some ((((x_36.Worlds).length:Int)) != (w64 ((((f_1.Pairs).length:Int))+1)))
     ) fun v_37 =>
     bif v_37 then some 240 else
     M172 f_1 x_36 (M173 i_31 (M174 f_1 k_34 n_32)) (((((x_36.Worlds).length:Int)) - 0:Int).toNat+1) 0
    else
    k_34 ()
def M175 (f_1:TField) (_:Unit):Option (Int) :=
 (M168 f_1).bind fun r_68 =>
 bif !r_68 then some 240 else
 some 0
def M176 (f_1:TField) (_:Unit):Option (Int) :=
 M174 f_1 (M175 f_1) (((((f_1.Runners).length:Int)) - 0:Int).toNat+1) 0
def M177 (f_1:TField):Option (Int) :=
 Option.bind (
  (M159 f_1.Clocks).bind fun r_5 =>
  bif r_5 != 0 then some true else
  bif decide ((((f_1.Pairs).length:Int)) > 16) then some true else
  bif decide ((((f_1.Runners).length:Int)) < 1) then some true else
  some (decide ((((f_1.Runners).length:Int)) > 4000))
 ) fun v_3 =>
 bif v_3 then some 240 else
 M169 f_1 (M176 f_1) (((((f_1.Pairs).length:Int)) - 0:Int).toNat+1) 0
def M178 (f_1:TField) (runner_2:Int):Option (Int) :=
 (M177 f_1).bind fun r_4 =>
 bif r_4 != 0 then some 240 else
 bif decide (runner_2 < 0) then some 250 else
 bif decide (runner_2≥(((f_1.Runners).length:Int))) then some 250 else
 some 0
def M179 (f_1:TField) (world_2:Int) (k_10:Unit→Option (Bool)):Nat→Int→Option (Bool)
  | 0,_=>none
  | n_8+1,i_7 =>
    bif decide (i_7 < (((f_1.Runners).length:Int))) then
     (idx f_1.Runners i_7).bind fun x_12 =>
     bif decide (world_2≥(((x_12.Worlds).length:Int))) then some false else
     (idx f_1.Runners i_7).bind fun x_14 =>
     (idx x_14.Worlds world_2).bind fun x_15 =>
     bif (((x_15).length:Int)) == 0 then some false else
     (M179 f_1 world_2 k_10 n_8) ((w64 (i_7+1)))
    else
    k_10 ()
def M180 (_:Unit):Option (Bool) :=
 some true
def M181 (f_1:TField) (world_2:Int):Option (Bool) :=
 bif decide (world_2 < 0) then some false else
 bif decide (world_2 > (((f_1.Pairs).length:Int))) then some false else
 M179 f_1 world_2 M180 (((((f_1.Runners).length:Int)) - 0:Int).toNat+1) 0
def M182 (a_1:List Int) (b_2:List Int) (k_8:Unit→Option (Bool)):Nat→Int→Option (Bool)
  | 0,_=>none
  | n_6+1,i_5 =>
    bif decide (i_5 < (((a_1).length:Int))) then
     bif decide (i_5 < (((b_2).length:Int))) then
      (idx a_1 i_5).bind fun x_11 =>
      (idx b_2 i_5).bind fun x_12 =>
      bif x_11 != x_12 then
       (idx a_1 i_5).bind fun x_14 =>
       (idx b_2 i_5).bind fun x_15 =>
       some (decide (x_14 < x_15))
      else
      (M182 a_1 b_2 k_8 n_6) ((w64 (i_5+1)))
     else
     k_8 ()
    else
    k_8 ()
def M183 (a_1:List Int) (b_2:List Int) (_:Unit):Option (Bool) :=
 some (decide ((((a_1).length:Int)) < (((b_2).length:Int))))
def M184 (a_1:List Int) (b_2:List Int):Option (Bool) :=
 M182 a_1 b_2 (M183 a_1 b_2) (((((a_1).length:Int)) - 0:Int).toNat+1) 0
def M185 (f_1:TField) (x_2:TOutcome) (runner_3:Int) (y_4:TOutcome) (rival_5:Int):Option (Bool) :=
 bif y_4.Out then some true else
 (idx f_1.Clocks.Far (w64 (x_2.Seg+1))).bind fun x_8 =>
 (idx x_8 (w64 (y_4.Seg+1))).bind fun x_9 =>
 bif decide ((w64 ((w64 (y_4.Hi+x_9)) - x_2.Lo)) > 0) then some true else
 bif (w64 ((w64 (y_4.Hi+x_9)) - x_2.Lo)) == 0 then
  (idx f_1.Runners rival_5).bind fun x_12 =>
  (idx f_1.Runners runner_3).bind fun x_13 =>
  (M184 x_12.Keys x_13.Keys).bind fun r_14 =>
  some (!r_14)
 else
 some false
def M186 (f_1:TField) (x_3:TOutcome) (runner_4:Int) (rival_5:Int) (x_8:List TOutcome) (k_13:Unit→Option (Bool)):Nat→Int→Option (Bool)
  | 0,_=>none
  | n_11+1,i_10 =>
    bif decide (i_10 < (((x_8).length:Int))) then
     (idx x_8 i_10).bind fun x_15 =>
     (M185 f_1 x_3 runner_4 x_15 rival_5).bind fun r_16 =>
     bif r_16 then some true else
     (M186 f_1 x_3 runner_4 rival_5 x_8 k_13 n_11) ((w64 (i_10+1)))
    else
    k_13 ()
def M187 (_:Unit):Option (Bool) :=
 some false
def M188 (f_1:TField) (world_2:Int) (x_3:TOutcome) (runner_4:Int) (rival_5:Int):Option (Bool) :=
 (idx f_1.Runners rival_5).bind fun x_7 =>
 (idx x_7.Worlds world_2).bind fun x_8 =>
 M186 f_1 x_3 runner_4 rival_5 x_8 M187 (((((x_8).length:Int)) - 0:Int).toNat+1) 0
def M189 (f_1:TField) (x_2:TOutcome) (runner_3:Int) (y_4:TOutcome) (rival_5:Int):Option (Bool) :=
 bif y_4.Out then some false else
 (idx f_1.Clocks.Far (w64 (y_4.Seg+1))).bind fun x_8 =>
 (idx x_8 (w64 (x_2.Seg+1))).bind fun x_9 =>
 bif decide ((w64 ((w64 (y_4.Lo - x_9)) - x_2.Hi)) < 0) then some true else
 bif (w64 ((w64 (y_4.Lo - x_9)) - x_2.Hi)) == 0 then
  (idx f_1.Runners rival_5).bind fun x_12 =>
  (idx f_1.Runners runner_3).bind fun x_13 =>
  (M184 x_12.Keys x_13.Keys).bind fun r_14 =>
  some r_14
 else
 some false
def M190 (f_1:TField) (x_3:TOutcome) (runner_4:Int) (rival_5:Int) (x_8:List TOutcome) (k_13:Unit→Option (Bool)):Nat→Int→Option (Bool)
  | 0,_=>none
  | n_11+1,i_10 =>
    bif decide (i_10 < (((x_8).length:Int))) then
     (idx x_8 i_10).bind fun x_15 =>
     (M189 f_1 x_3 runner_4 x_15 rival_5).bind fun r_16 =>
     bif r_16 then some true else
     (M190 f_1 x_3 runner_4 rival_5 x_8 k_13 n_11) ((w64 (i_10+1)))
    else
    k_13 ()
def M191 (_:Unit):Option (Bool) :=
 some false
def M192 (f_1:TField) (world_2:Int) (x_3:TOutcome) (runner_4:Int) (rival_5:Int):Option (Bool) :=
 (idx f_1.Runners rival_5).bind fun x_7 =>
 (idx x_7.Worlds world_2).bind fun x_8 =>
 M190 f_1 x_3 runner_4 rival_5 x_8 M191 (((((x_8).length:Int)) - 0:Int).toNat+1) 0
def M193 (f_1:TField) (world_2:Int) (x_3:TOutcome) (runner_4:Int):Nat→Int→Int→Int→Option (Int × Int)
  | 0,_,_,_=>none
  | n_13+1,best_10,worst_11,i_12 =>
    bif decide (i_12 < (((f_1.Runners).length:Int))) then
     Option.bind (
      bif i_12 == runner_4 then some (best_10,worst_11) else
      (M188 f_1 world_2 x_3 runner_4 i_12).bind fun r_23 =>
      bif !r_23 then
       (M192 f_1 world_2 x_3 runner_4 i_12).bind fun r_26 =>
       bif r_26 then some ((w64 (best_10+1)),(w64 (worst_11+1))) else
       some ((w64 (best_10+1)),worst_11)
      else
      (M192 f_1 world_2 x_3 runner_4 i_12).bind fun r_29 =>
      bif r_29 then some (best_10,(w64 (worst_11+1))) else
      some (best_10,worst_11)
     ) fun (best_19,worst_20) =>
     (M193 f_1 world_2 x_3 runner_4 n_13) best_19 worst_20 ((w64 (i_12+1)))
    else
    some (best_10,worst_11)
def M194 (f_1:TField) (world_2:Int) (x_3:TOutcome) (runner_4:Int):Option (Int × Int) :=
 (M193 f_1 world_2 x_3 runner_4 (((((f_1.Runners).length:Int)) - 0:Int).toNat+1) 1 1 0).bind fun (best_14,worst_15) =>
 some (best_14,worst_15)
def M195 (f_1:TField) (runner_2:Int) (w_13:Int) (x_25:List TOutcome):Nat→Int→Int→Int→Bool→Option (Int × Int × Bool)
  | 0,_,_,_,_=>none
  | n_34+1,i_30,v_31,v_32,v_33 =>
    bif decide (i_30 < (((x_25).length:Int))) then
     (M181 f_1 w_13).bind fun r_41 =>
     bif r_41 then
      Option.bind (
       (idx x_25 i_30).bind fun x_48 =>
       bif x_48.Out then some (v_31,v_32,true) else
       (idx x_25 i_30).bind fun x_50 =>
       (M194 f_1 w_13 x_50 runner_2).bind fun (r_51,r_52) =>
       bif v_31 == 0 then some (r_51,(maxG v_32 r_52),v_33) else
       bif decide (r_51 < v_31) then some (r_51,(maxG v_32 r_52),v_33) else
       some (v_31,(maxG v_32 r_52),v_33)
      ) fun (v_44,v_45,v_46) =>
      (M195 f_1 runner_2 w_13 x_25 n_34) ((w64 (i_30+1))) v_44 v_45 v_46
     else
     some (v_31,v_32,v_33)
    else
    some (v_31,v_32,v_33)
def M196 (f_1:TField) (runner_2:Int):Nat→Int→Int→Int→Bool→Option (Int × Int × Bool)
  | 0,_,_,_,_=>none
  | n_17+1,w_13,v_14,v_15,v_16 =>
    bif decide (w_13≤(((f_1.Pairs).length:Int))) then
     (idx f_1.Runners runner_2).bind fun x_24 =>
     (idx x_24.Worlds w_13).bind fun x_25 =>
     (M195 f_1 runner_2 w_13 x_25 (((((x_25).length:Int)) - 0:Int).toNat+1) 0 v_14 v_15 v_16).bind fun (v_35,v_36,v_37) =>
     (M196 f_1 runner_2 n_17) ((w64 (w_13+1))) v_35 v_36 v_37
    else
    some (v_14,v_15,v_16)
def M197 (f_1:TField) (runner_2:Int):Option (TRank × Int) :=
 (M178 f_1 runner_2).bind fun r_5 =>
 bif r_5 != 0 then some (({ Bib:=0,Kind:=0,Lo:=0,Hi:=0,Out:=false }:TRank),r_5) else
 (idx f_1.Runners runner_2).bind fun x_8 =>
 (M196 f_1 runner_2 (((((f_1.Pairs).length:Int))+1 - 0:Int).toNat+1) 0 0 0 false).bind fun (v_18,v_19,v_20) =>
 some (({ Bib:=x_8.Bib,Kind:=(bif (v_18 == 0) then 3 else (bif (v_18 == v_19) then (bif (!v_20) then 1 else 2) else 2)),Lo:=v_18,Hi:=v_19,Out:=v_20 }:TRank),0)
def M198 (q_1:TQuestion):Option (Bool) :=
 (M197 q_1.Field q_1.Runner).bind fun (r_3,r_4) =>
 some (r_3.Kind != 2)
def M199 (l_1:List Int) (n_2:Int) (k_8:Unit→Option (Bool)):Nat→Int→Option (Bool)
  | 0,_=>none
  | n_6+1,i_5 =>
    bif decide (i_5 < (((l_1).length:Int))) then
     (idx l_1 i_5).bind fun x_10 =>
     bif x_10 == n_2 then some true else
     (M199 l_1 n_2 k_8 n_6) ((w64 (i_5+1)))
    else
    k_8 ()
def M200 (_:Unit):Option (Bool) :=
 some false
def M201 (l_1:List Int) (n_2:Int):Option (Bool) :=
 M199 l_1 n_2 M200 (((((l_1).length:Int)) - 0:Int).toNat+1) 0
def M202 (x_2:TLook) (x_6:TSpan) (l_7:List TRunner) (w_10:Int):Nat→Int→(List TOutcome)→Option (List TOutcome)
  | 0,_,_=>none
  | n_22+1,i_20,l_21 =>
    (idx l_7 x_2.Runner).bind fun x_26 =>
    (idx x_26.Worlds w_10).bind fun x_27 =>
    bif decide (i_20 < (((x_27).length:Int))) then
     (idx l_7 x_2.Runner).bind fun x_29 =>
     (idx x_29.Worlds w_10).bind fun x_30 =>
     (idx x_30 i_20).bind fun x_31 =>
     bif decide ((maxG x_31.Lo x_6.Lo)≤(minG x_31.Hi x_6.Hi)) then
      (app 32 l_21 (([({ Out:=x_31.Out,Seg:=x_31.Seg,Lo:=(maxG x_31.Lo x_6.Lo),Hi:=(minG x_31.Hi x_6.Hi) }:TOutcome)]:List TOutcome))).bind fun l_33 =>
      (M202 x_2 x_6 l_7 w_10 n_22) ((w64 (i_20+1))) l_33
     else
     (M202 x_2 x_6 l_7 w_10 n_22) ((w64 (i_20+1))) l_21
    else
    some l_21
def M203 (x_2:TLook) (x_6:TSpan) (l_7:List TRunner):Nat→Int→(List (List TOutcome))→Option (List (List TOutcome))
  | 0,_,_=>none
  | n_12+1,w_10,l_11 =>
    (idx l_7 x_2.Runner).bind fun x_16 =>
    bif decide (w_10 < (((x_16.Worlds).length:Int))) then
     (M202 x_2 x_6 l_7 w_10 ((((((Option.getD (idx (Option.getD (idx l_7 x_2.Runner) default).Worlds w_10) default)).length:Int)) - 0:Int).toNat+1) 0 ((([]:List TOutcome)))).bind fun l_23 =>
     (app 24 l_11 (([l_23]:List (List TOutcome)))).bind fun l_35 =>
     (M203 x_2 x_6 l_7 n_12) ((w64 (w_10+1))) l_35
    else
    some l_11
def M204 (f_1:TField) (x_2:TLook) (l_7:List TRunner) (l_13:List (List TOutcome)) (x_37:TRunner) (k_42:Unit→Option (TField × Bool)):Nat→Int→Option (TField × Bool)
  | 0,_=>none
  | n_40+1,w_39 =>
    bif decide (w_39≤(((f_1.Pairs).length:Int))) then
     (M165 (({ Clocks:=f_1.Clocks,Pairs:=f_1.Pairs,Runners:=(List.set l_7 (Int.toNat x_2.Runner) ({ Bib:=x_37.Bib,Keys:=x_37.Keys,Worlds:=l_13 }:TRunner)) }:TField)) w_39).bind fun r_44 =>
     bif r_44 then some (({ Clocks:=f_1.Clocks,Pairs:=f_1.Pairs,Runners:=(List.set l_7 (Int.toNat x_2.Runner) ({ Bib:=x_37.Bib,Keys:=x_37.Keys,Worlds:=l_13 }:TRunner)) }:TField),true) else
     (M204 f_1 x_2 l_7 l_13 x_37 k_42 n_40) ((w64 (w_39+1)))
    else
    k_42 ()
def M205 (f_1:TField) (x_2:TLook) (l_7:List TRunner) (l_13:List (List TOutcome)) (x_37:TRunner) (_:Unit):Option (TField × Bool) :=
 some (({ Clocks:=f_1.Clocks,Pairs:=f_1.Pairs,Runners:=(List.set l_7 (Int.toNat x_2.Runner) ({ Bib:=x_37.Bib,Keys:=x_37.Keys,Worlds:=l_13 }:TRunner)) }:TField),false)
def M206 (f_1:TField) (x_2:TLook) (answer_3:Int):Option (TField × Bool) :=
 (idx x_2.Answers answer_3).bind fun x_6 =>
 (app 56 (([]:List TRunner)) f_1.Runners).bind fun l_7 =>
 (M203 x_2 x_6 l_7 ((((((Option.getD (idx l_7 x_2.Runner) default).Worlds).length:Int)) - 0:Int).toNat+1) 0 ((([]:List (List TOutcome))))).bind fun l_13 =>
 (idx l_7 x_2.Runner).bind fun x_37 =>
 M204 f_1 x_2 l_7 l_13 x_37 (M205 f_1 x_2 l_7 l_13 x_37) (((((f_1.Pairs).length:Int))+1 - 0:Int).toNat+1) 0
def M207 (q_1:TQuestion) (left_2:Int) (used_3:List Int) (v_4:Int) (i_19:Int) (rc_9093:TQuestion→Int→(List Int)→Int→Int→Bool→Option (Bool × Int × Bool)):Nat→Bool→Int→Int→Bool→Option (Bool × Int × Bool)
  | 0,_,_,_,_=>none
  | n_40+1,all_36,k_37,v_38,v_39 =>
    (idx q_1.Looks i_19).bind fun x_46 =>
    bif decide (k_37 < (((x_46.Answers).length:Int))) then
     bif all_36 then
      (idx q_1.Looks i_19).bind fun x_49 =>
      (M206 q_1.Field x_49 k_37).bind fun (r_50,r_51) =>
      bif !r_51 then (M207 q_1 left_2 used_3 v_4 i_19 rc_9093 n_40) all_36 ((w64 (k_37+1))) v_38 v_39 else
      (app 8 (([]:List Int)) used_3).bind fun l_54 =>
      (app 8 l_54 (([i_19]:List Int))).bind fun l_55 =>
      (rc_9093 ({ Field:=r_50,Runner:=q_1.Runner,Looks:=q_1.Looks }:TQuestion) ((w64 (left_2 - 1))) l_55 v_4 v_38 v_39).bind fun (r_56,b_57,b_58) =>
      (M207 q_1 left_2 used_3 v_4 i_19 rc_9093 n_40) r_56 ((w64 (k_37+1))) b_57 b_58
     else
     some (all_36,v_38,v_39)
    else
    some (all_36,v_38,v_39)
def M208 (q_1:TQuestion) (left_2:Int) (used_3:List Int) (v_4:Int) (rc_9093:TQuestion→Int→(List Int)→Int→Int→Bool→Option (Bool × Int × Bool)) (k_26:Int→Bool→Option (Bool × Int × Bool)):Nat→Int→Int→Bool→Option (Bool × Int × Bool)
  | 0,_,_,_=>none
  | n_22+1,i_19,v_20,v_21 =>
    bif decide (i_19 < (((q_1.Looks).length:Int))) then
     bif !v_21 then
      (M201 used_3 i_19).bind fun r_29 =>
      bif r_29 then (M208 q_1 left_2 used_3 v_4 rc_9093 k_26 n_22) ((w64 (i_19+1))) v_20 v_21 else
      (M207 q_1 left_2 used_3 v_4 i_19 rc_9093 ((((((Option.getD (idx q_1.Looks i_19) default).Answers).length:Int)) - 0:Int).toNat+1) true 0 v_20 v_21).bind fun (all_41,v_42,v_43) =>
      bif all_41 then
       bif !v_43 then some (true,v_42,v_43) else
       (M208 q_1 left_2 used_3 v_4 rc_9093 k_26 n_22) ((w64 (i_19+1))) v_42 v_43
      else
      (M208 q_1 left_2 used_3 v_4 rc_9093 k_26 n_22) ((w64 (i_19+1))) v_42 v_43
     else
     k_26 v_20 v_21
    else
    k_26 v_20 v_21
def M209 (v_23:Int) (v_24:Bool):Option (Bool × Int × Bool) :=
 some (false,v_23,v_24)
def M210 (rc_9093:TQuestion→Int→(List Int)→Int→Int→Bool→Option (Bool × Int × Bool)) (q_1:TQuestion) (left_2:Int) (used_3:List Int) (v_4:Int) (v_5:Int) (v_6:Bool):Option (Bool × Int × Bool) :=
 bif decide (v_5≥v_4) then some (false,v_5,true) else
 bif v_6 then some (false,v_5,v_6) else
 (M198 q_1).bind fun r_12 =>
 bif r_12 then some (true,(w64 (v_5+1)),v_6) else
 bif left_2 == 0 then some (false,(w64 (v_5+1)),v_6) else
 M208 q_1 left_2 used_3 v_4 rc_9093 M209 (((((q_1.Looks).length:Int)) - 0:Int).toNat+1) 0 ((w64 (v_5+1))) v_6
def M211:Nat→TQuestion→Int→(List Int)→Int→Int→Bool→Option (Bool × Int × Bool)
 | 0=>fun _ _ _ _ _ _=>none
 | n+1=>M210 (M211 n)
def M212 (x_1:TOutcome) (answers_2:List TSpan) (k_10:Unit→Option (Bool)):Nat→Int→Int→Option (Bool)
  | 0,_,_=>none
  | n_8+1,at_6,v_7 =>
    bif decide (v_7 < (((answers_2).length:Int))) then
     (idx answers_2 v_7).bind fun x_12 =>
     bif (decide (x_12.Lo≤at_6)) && (decide (at_6≤x_12.Hi)) then
      bif decide (x_1.Hi≤x_12.Hi) then some true else
      (M212 x_1 answers_2 k_10 n_8) ((w64 (x_12.Hi+1))) ((w64 (v_7+1)))
     else
     (M212 x_1 answers_2 k_10 n_8) at_6 ((w64 (v_7+1)))
    else
    k_10 ()
def M213 (_:Unit):Option (Bool) :=
 some false
def M214 (x_1:TOutcome) (answers_2:List TSpan):Option (Bool) :=
 M212 x_1 answers_2 M213 (((((answers_2).length:Int)) - 0:Int).toNat+1) x_1.Lo 0
def M215 (x_17:TLook) (k_27:Unit→Option (Int)):Nat→Int→Option (Int)
  | 0,_=>none
  | n_25+1,v_24 =>
    bif decide (v_24 < (((x_17.Answers).length:Int))) then
     (idx x_17.Answers v_24).bind fun x_29 =>
     bif decide (x_29.Lo > x_29.Hi) then some 360 else
     bif decide (v_24 > 0) then
      (idx x_17.Answers (w64 (v_24 - 1))).bind fun x_32 =>
      bif decide (x_29.Lo≤x_32.Hi) then some 360 else
      (M215 x_17 k_27 n_25) ((w64 (v_24+1)))
     else
     (M215 x_17 k_27 n_25) ((w64 (v_24+1)))
    else
    k_27 ()
def M216 (x_17:TLook) (r_35:List TOutcome) (k_41:Unit→Option (Int)):Nat→Int→Option (Int)
  | 0,_=>none
  | n_39+1,v_38 =>
    bif decide (v_38 < (((r_35).length:Int))) then
     (idx r_35 v_38).bind fun x_43 =>
     bif x_43.Out then some 360 else
     (M214 x_43 x_17.Answers).bind fun r_45 =>
     bif !r_45 then some 360 else
     (M216 x_17 r_35 k_41 n_39) ((w64 (v_38+1)))
    else
    k_41 ()
def M217 (v_12:Int) (nx_14:Int→Option (Int)) (_:Unit):Option (Int) :=
 nx_14 ((w64 (v_12+1)))
def M218 (q_1:TQuestion) (v_12:Int) (nx_14:Int→Option (Int)) (x_17:TLook) (_:Unit):Option (Int) :=
 (idx q_1.Field.Runners x_17.Runner).bind fun x_34 =>
 (M31 x_34.Worlds).bind fun r_35 =>
 M216 x_17 r_35 (M217 v_12 nx_14) (((((r_35).length:Int)) - 0:Int).toNat+1) 0
def M219 (q_1:TQuestion) (k_15:Unit→Option (Int)):Nat→Int→Option (Int)
  | 0,_=>none
  | n_13+1,v_12 =>
    bif decide (v_12 < (((q_1.Looks).length:Int))) then
     (idx q_1.Looks v_12).bind fun x_17 =>
     bif (decide (x_17.Runner < 0)) || ((decide (x_17.Runner≥(((q_1.Field.Runners).length:Int)))) || ((decide ((((x_17.Answers).length:Int)) < 1)) || (decide ((((x_17.Answers).length:Int)) > 4)))) then some 360 else
     M215 x_17 (M218 q_1 v_12 (M219 q_1 k_15 n_13) x_17) (((((x_17.Answers).length:Int)) - 0:Int).toNat+1) 0
    else
    k_15 ()
def M220 (_:Unit):Option (Int) :=
 some 0
def M221 (q_1:TQuestion):Option (Int) :=
 Option.bind (
  (M48 q_1.Field).bind fun r_5 =>
  bif r_5 != 0 then some true else
  bif decide (q_1.Runner < 0) then some true else
  bif decide (q_1.Runner≥(((q_1.Field.Runners).length:Int))) then some true else
  some (decide ((((q_1.Looks).length:Int)) > 16))
 ) fun v_3 =>
 bif v_3 then some 360 else
 M219 q_1 M220 (((((q_1.Looks).length:Int)) - 0:Int).toNat+1) 0
def M222 (r_1:TRunner) (c_2:Int):Option (Bool) :=
 (idx r_1.Worlds c_2).bind fun x_4 =>
 some ((((x_4).length:Int)) == 0)
def M223 (s_1:List TRunner) (c_2:Int) (k_8:Unit→Option (Int)):Nat→Int→Option (Int)
  | 0,_=>none
  | n_6+1,v_5 =>
    bif decide (v_5 < (((s_1).length:Int))) then
     (idx s_1 v_5).bind fun x_10 =>
     (M222 x_10 c_2).bind fun r_11 =>
     bif r_11 then some v_5 else
     (M223 s_1 c_2 k_8 n_6) ((w64 (v_5+1)))
    else
    k_8 ()
def M224 (_:Unit):Option (Int) :=
 some (-1)
def M225 (s_1:List TRunner) (c_2:Int):Option (Int) :=
 M223 s_1 c_2 M224 (((((s_1).length:Int)) - 0:Int).toNat+1) 0
def M226 (s_1:List TRunner) (c_2:Int):Option (Bool) :=
 (M225 s_1 c_2).bind fun r_4 =>
 some (decide (r_4≥0))
def M227 (answer_3:TSpan) (x_17:List TOutcome):Nat→Int→(List TOutcome)→Option (List TOutcome)
  | 0,_,_=>none
  | n_22+1,v_20,l_21 =>
    bif decide (v_20 < (((x_17).length:Int))) then
     (idx x_17 v_20).bind fun x_27 =>
     bif decide ((maxG x_27.Lo answer_3.Lo)≤(minG x_27.Hi answer_3.Hi)) then
      (app 32 l_21 (([({ Out:=x_27.Out,Seg:=x_27.Seg,Lo:=(maxG x_27.Lo answer_3.Lo),Hi:=(minG x_27.Hi answer_3.Hi) }:TOutcome)]:List TOutcome))).bind fun l_29 =>
      (M227 answer_3 x_17 n_22) ((w64 (v_20+1))) l_29
     else
     (M227 answer_3 x_17 n_22) ((w64 (v_20+1))) l_21
    else
    some l_21
def M228 (answer_3:TSpan) (x_7:TRunner):Nat→Int→(List (List TOutcome))→Option (List (List TOutcome))
  | 0,_,_=>none
  | n_12+1,v_10,l_11 =>
    bif decide (v_10 < (((x_7.Worlds).length:Int))) then
     (idx x_7.Worlds v_10).bind fun x_17 =>
     (M227 answer_3 x_17 (((((x_17).length:Int)) - 0:Int).toNat+1) 0 ((([]:List TOutcome)))).bind fun l_23 =>
     (app 24 l_11 (([l_23]:List (List TOutcome)))).bind fun l_31 =>
     (M228 answer_3 x_7 n_12) ((w64 (v_10+1))) l_31
    else
    some l_11
def M229 (q_1:TQuestion) (x_2:TLook) (l_6:List TRunner) (x_7:TRunner) (l_13:List (List TOutcome)) (k_37:Unit→Option (TQuestion × Bool)):Nat→Int→Option (TQuestion × Bool)
  | 0,_=>none
  | n_35+1,v_34 =>
    bif decide (v_34 < (w64 ((((q_1.Field.Pairs).length:Int))+1))) then
     (M226 ((List.set l_6 (Int.toNat x_2.Runner) ({ Bib:=x_7.Bib,Keys:=x_7.Keys,Worlds:=l_13 }:TRunner))) v_34).bind fun r_39 =>
     bif !r_39 then some (({ Field:=({ Clocks:=q_1.Field.Clocks,Pairs:=q_1.Field.Pairs,Runners:=(List.set l_6 (Int.toNat x_2.Runner) ({ Bib:=x_7.Bib,Keys:=x_7.Keys,Worlds:=l_13 }:TRunner)) }:TField),Runner:=q_1.Runner,Looks:=q_1.Looks }:TQuestion),true) else
     (M229 q_1 x_2 l_6 x_7 l_13 k_37 n_35) ((w64 (v_34+1)))
    else
    k_37 ()
def M230 (_:Unit):Option (TQuestion × Bool) :=
 some (({ Field:=({ Clocks:=({ Segments:=(([]:List TSegment)),Far:=(([]:List (List Int))) }:TClocks),Pairs:=(([]:List TPair)),Runners:=(([]:List TRunner)) }:TField),Runner:=0,Looks:=(([]:List TLook)) }:TQuestion),false)
def M231 (q_1:TQuestion) (x_2:TLook) (answer_3:TSpan):Option (TQuestion × Bool) :=
 (M112 q_1.Field.Runners).bind fun l_6 =>
 (idx l_6 x_2.Runner).bind fun x_7 =>
 (M228 answer_3 x_7 (((((x_7.Worlds).length:Int)) - 0:Int).toNat+1) 0 ((([]:List (List TOutcome))))).bind fun l_13 =>
 M229 q_1 x_2 l_6 x_7 l_13 M230 (((w64 ((((q_1.Field.Pairs).length:Int))+1)) - 0:Int).toNat+1) 0
def M232 (q_1:TQuestion):Option (Int) :=
 (M109 q_1.Field q_1.Runner).bind fun (r_3,r_4) =>
 bif r_3.Kind != 2 then some 0 else
 bif r_3.Out then some (w64 ((w64 (r_3.Hi - r_3.Lo))+1)) else
 some (w64 (r_3.Hi - r_3.Lo))
def M233:Option (TPlan) :=
 some ({ Look:=(-1),After:=(([]:List TPlan0)) }:TPlan)
def M234 (q_1:TQuestion) (look_2:Int):Option (List TSegment × List (List Int) × List TPair × List TRunner × Int × List TLook × Int) :=
 some (q_1.Field.Clocks.Segments,q_1.Field.Clocks.Far,q_1.Field.Pairs,q_1.Field.Runners,q_1.Runner,q_1.Looks,look_2)
def M235 (c_1:List TSegment) (c_2:List (List Int)) (c_3:List TPair) (c_4:List TRunner) (c_5:Int) (c_6:List TLook) (c_7:Int) (x_8:TLook) (k_13:Unit→Option (List (Int × TQuestion))):Nat→Int→Option (List (Int × TQuestion))
  | 0,_=>none
  | n_11+1,v_10 =>
    bif decide (v_10 < (((x_8.Answers).length:Int))) then
     (idx x_8.Answers v_10).bind fun x_15 =>
     (idx c_6 c_7).bind fun x_16 =>
     (M231 (({ Field:=({ Clocks:=({ Segments:=c_1,Far:=c_2 }:TClocks),Pairs:=c_3,Runners:=c_4 }:TField),Runner:=c_5,Looks:=c_6 }:TQuestion)) x_16 x_15).bind fun (r_17,r_18) =>
     bif r_18 then
      Option.bind (
       (M235 c_1 c_2 c_3 c_4 c_5 c_6 c_7 x_8 k_13 n_11) ((w64 (v_10+1)))
      ) fun l=>some ((v_10,r_17)::l)
     else
     (M235 c_1 c_2 c_3 c_4 c_5 c_6 c_7 x_8 k_13 n_11) ((w64 (v_10+1)))
    else
    k_13 ()
def M236 (_:Unit):Option (List (Int × TQuestion)) :=
 some []
def M237 (c_1:List TSegment) (c_2:List (List Int)) (c_3:List TPair) (c_4:List TRunner) (c_5:Int) (c_6:List TLook) (c_7:Int):Option (List (Int × TQuestion)) :=
 (idx c_6 c_7).bind fun x_8 =>
 M235 c_1 c_2 c_3 c_4 c_5 c_6 c_7 x_8 M236 (((((x_8.Answers).length:Int)) - 0:Int).toNat+1) 0
def M238 (x_30:TLook):Nat→Int→(List TPlan0)→Option (List TPlan0)
  | 0,_,_=>none
  | n_35+1,v_33,l_34 =>
    bif decide (v_33 < (((x_30.Answers).length:Int))) then
     (M233).bind fun r_40 =>
     (app 32 l_34 (([(pTPlan r_40)]:List TPlan0))).bind fun l_42 =>
     (M238 x_30 n_35) ((w64 (v_33+1))) l_42
    else
    some l_34
def M239 (left_2:Int) (v_18:Int) (rc_9111:TQuestion→Int→Int→(List Bool)→Option (Option (TPlan × Bool × Int × List Bool))) (y:Int × TQuestion) (s:Int × List Bool × List TPlan0):Option (Option ((Int × List Bool × List TPlan0) ⊕ (Int × List Bool × List TPlan0))) :=
  match y,s with
  | (y_55,y_56),(v_60,l_61,l_62) =>
    (rc_9111 y_56 ((w64 (left_2 - 1))) v_60 l_61).bind fun q=>onP q (
     some none
    ) fun (r_67,r_68,b_69,l_70) =>
    (lenIs l_70 l_61).bind fun _ =>
    bif !r_68 then
     (idx l_70 v_18).bind fun x_75 =>
     some (some (.inr (b_69,(List.set l_70 (Int.toNat v_18) false),l_62)))
    else
    (idx l_62 y_55).bind fun x_76 =>
    some (some (.inl (b_69,l_70,(List.set l_62 (Int.toNat y_55) (pTPlan r_67)))))
def M240 (q_1:TQuestion) (left_2:Int) (rc_9111:TQuestion→Int→Int→(List Bool)→Option (Option (TPlan × Bool × Int × List Bool))) (k_25:Int→(List Bool)→Option (Option (TPlan × Bool × Int × List Bool))):Nat→Int→Int→(List Bool)→Option (Option (TPlan × Bool × Int × List Bool))
  | 0,_,_,_=>none
  | n_21+1,v_18,v_19,l_20 =>
    bif decide (v_18 < (((q_1.Looks).length:Int))) then
     (idx l_20 v_18).bind fun x_27 =>
     bif x_27 then (M240 q_1 left_2 rc_9111 k_25 n_21) ((w64 (v_18+1))) v_19 l_20 else
     bif left_2 == 0 then (M240 q_1 left_2 rc_9111 k_25 n_21) ((w64 (v_18+1))) v_19 l_20 else
     (idx q_1.Looks v_18).bind fun x_30 =>
     (M238 x_30 (((((x_30.Answers).length:Int)) - 0:Int).toNat+1) 0 ((([]:List TPlan0)))).bind fun l_36 =>
     (idx l_20 v_18).bind fun x_44 =>
     (M234 q_1 v_18).bind fun (c_45,c_46,c_47,c_48,c_49,c_50,c_51) =>
     (M237 c_45 c_46 c_47 c_48 c_49 c_50 c_51).bind fun l_53 =>
     (foldP (M239 left_2 v_18 rc_9111) l_53 (v_19,(List.set l_20 (Int.toNat v_18) true),l_36)).bind fun q=>match q with
     | none =>
      some none
     | some (.inl (v_77,l_78,l_79)) =>
      (idx l_78 v_18).bind fun x_80 =>
      some (some (({ Look:=v_18,After:=l_79 }:TPlan),true,v_77,(List.set l_78 (Int.toNat v_18) false)))
     | some (.inr (v_82,l_83,l_84)) =>
      (M240 q_1 left_2 rc_9111 k_25 n_21) ((w64 (v_18+1))) v_82 l_83
    else
    k_25 v_19 l_20
def M241 (v_22:Int) (l_23:List Bool):Option (Option (TPlan × Bool × Int × List Bool)) :=
 some (some (({ Look:=0,After:=(([]:List TPlan0)) }:TPlan),false,v_22,l_23))
def M242 (rc_9111:TQuestion→Int→Int→(List Bool)→Option (Option (TPlan × Bool × Int × List Bool))) (q_1:TQuestion) (left_2:Int) (v_3:Int) (l_4:List Bool):Option (Option (TPlan × Bool × Int × List Bool)) :=
 bif v_3 == 0 then some none else
 (M232 q_1).bind fun r_10 =>
 bif r_10 == 0 then
  (M233).bind fun r_13 =>
  some (some (r_13,true,(w64 (v_3 - 1)),l_4))
 else
 M240 q_1 left_2 rc_9111 M241 (((((q_1.Looks).length:Int)) - 0:Int).toNat+1) 0 ((w64 (v_3 - 1))) l_4
def M243:Nat→TQuestion→Int→Int→(List Bool)→Option (Option (TPlan × Bool × Int × List Bool))
 | 0=>fun _ _ _ _=>none
 | n+1=>M242 (M243 n)
def M244 (q_1:TQuestion) (k_21:Int→Option (TPlan × Int × Int)):Nat→Int→Int→(List Bool)→Option (TPlan × Int × Int)
  | 0,_,_,_=>none
  | n_18+1,v_15,v_16,l_17 =>
    bif decide (v_15 < (w64 ((minG 6 (((q_1.Looks).length:Int)))+1))) then
     (M243 1000 q_1 v_15 v_16 l_17).bind fun q=>onP q (
      some (({ Look:=0,After:=(([]:List TPlan0)) }:TPlan),0,3)
     ) fun (r_23,r_24,b_25,l_26) =>
     (lenIs l_26 l_17).bind fun _ =>
     bif r_24 then some (r_23,v_15,0) else
     (M244 q_1 k_21 n_18) ((w64 (v_15+1))) b_25 l_26
    else
    k_21 v_16
def M245 (v_19:Int):Option (TPlan × Int × Int) :=
 some (({ Look:=0,After:=(([]:List TPlan0)) }:TPlan),0,361)
def M246 (q_1:TQuestion) (budget_2:Int):Option (TPlan × Int × Int) :=
 (M221 q_1).bind fun r_6 =>
 bif r_6 != 0 then some (({ Look:=0,After:=(([]:List TPlan0)) }:TPlan),0,r_6) else
 bif decide (budget_2 < 0) then some (({ Look:=0,After:=(([]:List TPlan0)) }:TPlan),0,1) else
 bif decide (budget_2 > 1073741824) then some (({ Look:=0,After:=(([]:List TPlan0)) }:TPlan),0,1) else
 (mkN 1 (((q_1.Looks).length:Int))).bind fun n_11 =>
 M244 q_1 M245 (((w64 ((minG 6 (((q_1.Looks).length:Int)))+1)) - 0:Int).toNat+1) 0 budget_2 (List.replicate n_11 false)
def M247 (q_1:TQuestion) (k_22:Unit→Option (Bool)):Nat→Int→Option (Bool)
  | 0,_=>none
  | n_20+1,v_19 =>
    bif decide (v_19 < (w64 ((((q_1.Looks).length:Int))+1))) then
     (M122 q_1 v_19 200).bind fun (r_24,r_25) =>
     bif r_24 then some false else
     bif r_25 != 0 then
      bif r_25 != 3 then some false else
      (M247 q_1 k_22 n_20) ((w64 (v_19+1)))
     else
     (M247 q_1 k_22 n_20) ((w64 (v_19+1)))
    else
    k_22 ()
def M248 (_:Unit):Option (Bool) :=
 some true
def M249 (q_1:TQuestion):Option (Bool) :=
 (M131).bind fun r_3 =>
 bif !r_3 then some false else
 (M144 q_1 (({ Look:=0,After:=(([]:List TPlan0)) }:TPlan))).bind fun r_6 =>
 bif !r_6 then some true else
 (M221 q_1).bind fun r_9 =>
 bif r_9 != 0 then some true else
 (M246 q_1 200).bind fun (r_12,r_13,r_14) =>
 bif r_14 == 3 then some true else
 bif r_14 == 361 then M247 q_1 M248 (((w64 ((((q_1.Looks).length:Int))+1)) - 0:Int).toNat+1) 0 else
 bif r_14 == 0 then
  (M122 q_1 r_13 200).bind fun (r_31,r_32) =>
  Option.bind (
   (M130 q_1 r_12).bind fun r_36 =>
   bif r_36 != 0 then some true else
   (M125 1000 r_12).bind fun r_39 =>
   bif decide (r_39 > r_13) then some true else
   bif r_31 then
    bif r_32 == 0 then some false else
    some (!(r_32 == 3))
   else
   some (!(r_32 == 3))
  ) fun v_34 =>
  bif v_34 then some false else
  bif r_13 == 0 then some true else
  (M122 q_1 ((w64 (r_13 - 1))) 200).bind fun (r_46,r_47) =>
  bif !r_46 then
   bif r_47 == 0 then some true else
   some (r_47 == 3)
  else
  some false
 else
 some false
end Go.Stop
