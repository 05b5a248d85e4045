/- Models of functions, by program (gen.py). No condition. -/
import Derived.Test.YthandbiapckgkaaZB14
namespace Go.Stop
open Go Go.Abs
set_option linter.unusedVariables false
structure TSegment where
 Mat:Int
 Epoch:Int
 Anchor:Int
 deriving DecidableEq,Inhabited
structure TClocks where
 Segments:List TSegment
 Far:List (List Int)
 deriving DecidableEq,Inhabited
structure TPair where
 A:Int
 B:Int
 deriving DecidableEq,Inhabited
structure TOutcome where
 Out:Bool
 Seg:Int
 Lo:Int
 Hi:Int
 deriving DecidableEq,Inhabited
structure TRunner where
 Bib:Int
 Keys:List Int
 Worlds:List (List TOutcome)
 deriving DecidableEq,Inhabited
structure TField where
 Clocks:TClocks
 Pairs:List TPair
 Runners:List TRunner
 deriving DecidableEq,Inhabited
structure TChoice where
 Outcome:Int
 X:Int
 deriving DecidableEq,Inhabited
structure THistory where
 World:Int
 Offsets:List Int
 Choices:List TChoice
 deriving DecidableEq,Inhabited
structure TRank where
 Bib:Int
 Kind:Int
 Lo:Int
 Hi:Int
 Out:Bool
 deriving DecidableEq,Inhabited
structure Tranks_place where
 world:Int
 outcome:Int
 rank:Int
 deriving DecidableEq,Inhabited
structure Tclocks_place where
 mat:Int
 epoch:Int
 deriving DecidableEq,Inhabited
def eTSegment (x:TSegment):D:=.ag [(.i .i64 x.Mat),(.i .i64 x.Epoch),(.i .i64 x.Anchor)]
def eTClocks (x:TClocks):D:=.ag [(.ls (List.map eTSegment x.Segments)),(.ls (List.map (eL eI) x.Far))]
def eTPair (x:TPair):D:=.ag [(.i .i64 x.A),(.i .i64 x.B)]
def eTOutcome (x:TOutcome):D:=.ag [(.b x.Out),(.i .i64 x.Seg),(.i .i64 x.Lo),(.i .i64 x.Hi)]
def eTRunner (x:TRunner):D:=.ag [(.i .i64 x.Bib),(.ls (List.map eI x.Keys)),(.ls (List.map (eL eTOutcome) x.Worlds))]
def eTField (x:TField):D:=.ag [(.ls (List.map eTSegment x.Clocks.Segments)),(.ls (List.map (eL eI) x.Clocks.Far)),(.ls (List.map eTPair x.Pairs)),(.ls (List.map eTRunner x.Runners))]
def eTChoice (x:TChoice):D:=.ag [(.i .i64 x.Outcome),(.i .i64 x.X)]
def eTHistory (x:THistory):D:=.ag [(.i .i64 x.World),(.ls (List.map eI x.Offsets)),(.ls (List.map eTChoice x.Choices))]
def eTRank (x:TRank):D:=.ag [(.i .i64 x.Bib),(.i .i64 x.Kind),(.i .i64 x.Lo),(.i .i64 x.Hi),(.b x.Out)]
def eTranks_place (x:Tranks_place):D:=.ag [(.i .i64 x.world),(.i .i64 x.outcome),(.i .i64 x.rank)]
def eTclocks_place (x:Tclocks_place):D:=.ag [(.i .i64 x.mat),(.i .i64 x.epoch)]
def M0 (times_1:List Int):Nat→Int→(List TRunner)→Option (List TRunner)
  | 0,_,_=>none
  | n_7+1,i_5,l_6 =>
    bif decide ((w64 (i_5+1)) < (((times_1).length:Int))) then
     (idx times_1 i_5).bind fun x_12 =>
     (idx times_1 (w64 (i_5+1))).bind fun x_13 =>
     (app 56 l_6 (([({ Bib:=(w64 (i_5+1)),Keys:=(([]:List Int)),Worlds:=(([(([({ Out:=false,Seg:=(-1),Lo:=x_12,Hi:=x_13 }:TOutcome)]:List TOutcome))]:List (List TOutcome))) }:TRunner)]:List TRunner))).bind fun l_14 =>
     (M0 times_1 n_7) ((w64 (i_5+2))) l_14
    else
    some l_6
def M1 (times_1:List Int):Option (TField) :=
 (M0 times_1 (((((times_1).length:Int)) - (w64 (0+1)):Int).toNat+1) 0 ((([]:List TRunner)))).bind fun l_8 =>
 some ({ Clocks:=({ Segments:=(([]:List TSegment)),Far:=(([(([0]:List Int))]:List (List Int))) }:TClocks),Pairs:=(([]:List TPair)),Runners:=l_8 }:TField)
def M2 (n_1:Int):Option (Bool) :=
 bif decide (n_1≥(-1099511627776)) then some (decide (n_1≤1099511627776)) else
 some false
def M3 (x_1:Int):Option (Bool) :=
 some (x_1 != x_1)
def M4 (x_1:Int) (y_2:Int):Option (Int) :=
 (M3 x_1).bind fun r_4 =>
 (M3 y_2).bind fun r_6 =>
 bif r_4 then
  bif r_6 then some 0 else
  some (-1)
 else
 bif r_6 then some 1 else
 bif decide (x_1 < y_2) then some (-1) else
 bif decide (x_1 > y_2) then some 1 else
 some 0
def M5 (vals_1:List Int) (k_7:Unit→Option (Int)):Nat→Int→Option (Int)
  | 0,_=>none
  | n_5+1,v_4 =>
    bif decide (v_4 < (((vals_1).length:Int))) then
     (idx vals_1 v_4).bind fun x_9 =>
     bif x_9 != 0 then some x_9 else
     (M5 vals_1 k_7 n_5) ((w64 (v_4+1)))
    else
    k_7 ()
def M6 (_:Unit):Option (Int) :=
 some 0
def M7 (vals_1:List Int):Option (Int) :=
 M5 vals_1 M6 (((((vals_1).length:Int)) - 0:Int).toNat+1) 0
def M8 (p_1:Tclocks_place) (q_2:Tclocks_place):Option (Int) :=
 (M4 p_1.mat q_2.mat).bind fun r_4 =>
 (M4 p_1.epoch q_2.epoch).bind fun r_6 =>
 (M7 ((([r_4,r_6]:List Int)))).bind fun r_8 =>
 some r_8
def M9 (a_1:TSegment) (b_2:TSegment):Option (Int) :=
 (M8 ({ mat:=a_1.Mat,epoch:=a_1.Epoch }:Tclocks_place) ({ mat:=b_2.Mat,epoch:=b_2.Epoch }:Tclocks_place)).bind fun r_4 =>
 some r_4
def M10 (w_1:Int):Option (Bool) :=
 bif decide (w_1 < (-2199023255552)) then some true else
 some (decide (w_1 > 2199023255552))
def M11 (s_1:List Int) (k_7:Unit→Option (Int)):Nat→Int→Option (Int)
  | 0,_=>none
  | n_5+1,v_4 =>
    bif decide (v_4 < (((s_1).length:Int))) then
     (idx s_1 v_4).bind fun x_9 =>
     (M10 x_9).bind fun r_10 =>
     bif r_10 then some v_4 else
     (M11 s_1 k_7 n_5) ((w64 (v_4+1)))
    else
    k_7 ()
def M12 (_:Unit):Option (Int) :=
 some (-1)
def M13 (s_1:List Int):Option (Int) :=
 M11 s_1 M12 (((((s_1).length:Int)) - 0:Int).toNat+1) 0
def M14 (s_1:List Int):Option (Bool) :=
 (M13 s_1).bind fun r_3 =>
 some (decide (r_3≥0))
def M15 (k_1:TClocks) (k_9:Unit→Option (Int)):Nat→Int→Option (Int)
  | 0,_=>none
  | n_7+1,v_6 =>
    bif decide (v_6 < (((k_1.Segments).length:Int))) then
     (idx k_1.Segments v_6).bind fun x_11 =>
     Option.bind (
      bif decide (x_11.Mat < 0) then some true else
      bif decide (x_11.Mat≥40) then some true else
      bif decide (x_11.Epoch < 0) then some true else
      bif decide (x_11.Epoch > 255) then some true else
      (M2 x_11.Anchor).bind fun r_18 =>
      bif !r_18 then some true else
      bif decide (v_6 > 0) then
       (idx k_1.Segments (w64 (v_6 - 1))).bind fun x_22 =>
       (M9 x_22 x_11).bind fun r_23 =>
       some (decide (r_23≥0))
      else
      some false
     ) fun v_12 =>
     bif v_12 then some 160 else
     (M15 k_1 k_9 n_7) ((w64 (v_6+1)))
    else
    k_9 ()
def M16 (k_1:TClocks) (k_30:Unit→Option (Int)):Nat→Int→Option (Int)
  | 0,_=>none
  | n_28+1,v_27 =>
    bif decide (v_27 < (((k_1.Far).length:Int))) then
     (idx k_1.Far v_27).bind fun x_32 =>
     bif (((x_32).length:Int)) != (w64 ((((k_1.Segments).length:Int))+1)) then some 160 else
     (idx x_32 v_27).bind fun x_34 =>
     bif x_34 != 0 then some 160 else
     (M14 x_32).bind fun r_36 =>
     bif r_36 then some 160 else
     (M16 k_1 k_30 n_28) ((w64 (v_27+1)))
    else
    k_30 ()
def M17 (k_1:TClocks) (v_40:Int) (x_52:Int) (x_53:List Int) (k_58:Unit→Option (Int)):Nat→Int→Option (Int)
  | 0,_=>none
  | n_56+1,v_55 =>
    bif decide (v_55 < (((x_53).length:Int))) then
     (idx x_53 v_55).bind fun x_60 =>
     (idx k_1.Far v_40).bind fun x_61 =>
     (idx x_61 v_55).bind fun x_62 =>
     bif decide (x_62 > (w64 (x_52+x_60))) then some 160 else
     (M17 k_1 v_40 x_52 x_53 k_58 n_56) ((w64 (v_55+1)))
    else
    k_58 ()
def M18 (v_47:Int) (nx_49:Int→Option (Int)) (_:Unit):Option (Int) :=
 nx_49 ((w64 (v_47+1)))
def M19 (k_1:TClocks) (v_40:Int) (x_45:List Int) (k_50:Unit→Option (Int)):Nat→Int→Option (Int)
  | 0,_=>none
  | n_48+1,v_47 =>
    bif decide (v_47 < (((x_45).length:Int))) then
     (idx x_45 v_47).bind fun x_52 =>
     (idx k_1.Far v_47).bind fun x_53 =>
     M17 k_1 v_40 x_52 x_53 (M18 v_47 (M19 k_1 v_40 x_45 k_50 n_48)) (((((x_53).length:Int)) - 0:Int).toNat+1) 0
    else
    k_50 ()
def M20 (v_40:Int) (nx_42:Int→Option (Int)) (_:Unit):Option (Int) :=
 nx_42 ((w64 (v_40+1)))
def M21 (k_1:TClocks) (k_43:Unit→Option (Int)):Nat→Int→Option (Int)
  | 0,_=>none
  | n_41+1,v_40 =>
    bif decide (v_40 < (w64 ((((k_1.Segments).length:Int))+1))) then
     (idx k_1.Far v_40).bind fun x_45 =>
     M19 k_1 v_40 x_45 (M20 v_40 (M21 k_1 k_43 n_41)) (((((x_45).length:Int)) - 0:Int).toNat+1) 0
    else
    k_43 ()
def M22 (_:Unit):Option (Int) :=
 some 0
def M23 (k_1:TClocks) (_:Unit):Option (Int) :=
 M21 k_1 M22 (((w64 ((((k_1.Segments).length:Int))+1)) - 0:Int).toNat+1) 0
def M24 (k_1:TClocks) (_:Unit):Option (Int) :=
 M16 k_1 (M23 k_1) (((((k_1.Far).length:Int)) - 0:Int).toNat+1) 0
def M25 (k_1:TClocks):Option (Int) :=
 bif decide ((((k_1.Segments).length:Int)) > 511) then some 160 else
 bif (((k_1.Far).length:Int)) != (w64 ((((k_1.Segments).length:Int))+1)) then some 160 else
 M15 k_1 (M24 k_1) (((((k_1.Segments).length:Int)) - 0:Int).toNat+1) 0
def M26 (slices_1:List (List TOutcome)):Nat→Int→Int→Option (Int)
  | 0,_,_=>none
  | n_7+1,size_5,v_6 =>
    bif decide (v_6 < (((slices_1).length:Int))) then
     (idx slices_1 v_6).bind fun x_12 =>
     bif decide ((w64 (size_5+(((x_12).length:Int)))) < 0) then none else
     (M26 slices_1 n_7) ((w64 (size_5+(((x_12).length:Int))))) ((w64 (v_6+1)))
    else
    some size_5
def M27 (slices_1:List (List TOutcome)):Nat→Int→(List TOutcome)→Option (List TOutcome)
  | 0,_,_=>none
  | n_23+1,v_21,l_22 =>
    bif decide (v_21 < (((slices_1).length:Int))) then
     (idx slices_1 v_21).bind fun x_28 =>
     (app 32 l_22 x_28).bind fun l_29 =>
     (M27 slices_1 n_23) ((w64 (v_21+1))) l_29
    else
    some l_22
def M28 (slices_1:List (List TOutcome)):Nat→Int→(List TOutcome)→Option (List TOutcome)
  | 0,_,_=>none
  | n_35+1,v_33,l_34 =>
    bif decide (v_33 < (((slices_1).length:Int))) then
     (idx slices_1 v_33).bind fun x_40 =>
     (app 32 l_34 x_40).bind fun l_41 =>
     (M28 slices_1 n_35) ((w64 (v_33+1))) l_41
    else
    some l_34
def M29 (slices_1:List (List TOutcome)):Option (List TOutcome) :=
 (M26 slices_1 (((((slices_1).length:Int)) - 0:Int).toNat+1) 0 0).bind fun size_8 =>
 bif decide (size_8 < 0) then none else
 bif decide ((w64 (size_8 - 0)) > 0) then
  (mkZ 32 (w64 (size_8 - 0))).bind fun n_17 =>
  (slcTo (List.replicate n_17 ({ Out:=false,Seg:=0,Lo:=0,Hi:=0 }:TOutcome)) 0).bind fun l_18 =>
  (M27 slices_1 (((((slices_1).length:Int)) - 0:Int).toNat+1) 0 l_18).bind fun l_24 =>
  some l_24
 else
 (M28 slices_1 (((((slices_1).length:Int)) - 0:Int).toNat+1) 0 ((([]:List TOutcome)))).bind fun l_36 =>
 some l_36
def M30:Option (TOutcome) :=
 some ({ Out:=true,Seg:=(-1),Lo:=0,Hi:=0 }:TOutcome)
def M31 (k_1:TClocks) (x_2:TOutcome):Option (Int) :=
 (M25 k_1).bind fun r_4 =>
 bif r_4 != 0 then some r_4 else
 bif x_2.Out then
  (M30).bind fun r_13 =>
  bif !((x_2.Out == r_13.Out) && ((x_2.Seg == r_13.Seg) && ((x_2.Lo == r_13.Lo) && ((x_2.Hi == r_13.Hi) && true)))) then some 230 else
  some 0
 else
 bif !((decide (x_2.Seg≥(-1))) && ((decide (x_2.Seg < (((k_1.Segments).length:Int)))) && ((decide (x_2.Lo≥(-288230376151711744))) && ((decide (x_2.Lo≤x_2.Hi)) && (decide (x_2.Hi≤288230376151711744)))))) then some 230 else
 some 0
def M32 (r_1:TRunner) (c_2:Int):Option (Bool) :=
 (idx r_1.Worlds c_2).bind fun x_4 =>
 some ((((x_4).length:Int)) == 0)
def M33 (s_1:List TRunner) (c_2:Int) (k_8:Unit→Option (Int)):Nat→Int→Option (Int)
  | 0,_=>none
  | n_6+1,v_5 =>
    bif decide (v_5 < (((s_1).length:Int))) then
     (idx s_1 v_5).bind fun x_10 =>
     (M32 x_10 c_2).bind fun r_11 =>
     bif r_11 then some v_5 else
     (M33 s_1 c_2 k_8 n_6) ((w64 (v_5+1)))
    else
    k_8 ()
def M34 (_:Unit):Option (Int) :=
 some (-1)
def M35 (s_1:List TRunner) (c_2:Int):Option (Int) :=
 M33 s_1 c_2 M34 (((((s_1).length:Int)) - 0:Int).toNat+1) 0
def M36 (s_1:List TRunner) (c_2:Int):Option (Bool) :=
 (M35 s_1 c_2).bind fun r_4 =>
 some (decide (r_4≥0))
def M37 (f_1:TField) (k_7:Unit→Option (Bool)):Nat→Int→Option (Bool)
  | 0,_=>none
  | n_5+1,v_4 =>
    bif decide (v_4 < (w64 ((((f_1.Pairs).length:Int))+1))) then
     (M36 f_1.Runners v_4).bind fun r_9 =>
     bif !r_9 then some true else
     (M37 f_1 k_7 n_5) ((w64 (v_4+1)))
    else
    k_7 ()
def M38 (_:Unit):Option (Bool) :=
 some false
def M39 (f_1:TField):Option (Bool) :=
 M37 f_1 M38 (((w64 ((((f_1.Pairs).length:Int))+1)) - 0:Int).toNat+1) 0
def M40 (f_1:TField) (k_19:Unit→Option (Int)):Nat→Int→Int→Int→Option (Int)
  | 0,_,_,_=>none
  | n_17+1,v_14,v_15,v_16 =>
    bif decide (v_14 < (((f_1.Pairs).length:Int))) then
     (idx f_1.Pairs v_14).bind fun x_21 =>
     bif (decide (x_21.A < 1)) || ((decide (x_21.A≥x_21.B)) || ((decide (x_21.B > 9999)) || ((decide (x_21.A < v_15)) || ((x_21.A == v_15) && (decide (x_21.B≤v_16)))))) then some 240 else
     (M40 f_1 k_19 n_17) ((w64 (v_14+1))) x_21.A x_21.B
    else
    k_19 ()
def M41 (f_1:TField) (r_45:List TOutcome) (k_51:Unit→Option (Int)):Nat→Int→Option (Int)
  | 0,_=>none
  | n_49+1,v_48 =>
    bif decide (v_48 < (((r_45).length:Int))) then
     (idx r_45 v_48).bind fun x_53 =>
     (M31 f_1.Clocks x_53).bind fun r_54 =>
     bif r_54 != 0 then some 240 else
     (M41 f_1 r_45 k_51 n_49) ((w64 (v_48+1)))
    else
    k_51 ()
def M42 (v_32:Int) (nx_34:Int→Int→Option (Int)) (x_37:TRunner) (_:Unit):Option (Int) :=
 nx_34 x_37.Bib ((w64 (v_32+1)))
def M43 (f_1:TField) (k_35:Unit→Option (Int)):Nat→Int→Int→Option (Int)
  | 0,_,_=>none
  | n_33+1,bib_31,v_32 =>
    bif decide (v_32 < (((f_1.Runners).length:Int))) then
     (idx f_1.Runners v_32).bind fun x_37 =>
     Option.bind (
      bif decide (x_37.Bib≤bib_31) then some true else
      bif decide (x_37.Bib > 9999) then some true else
      (idx f_1.Runners 0).bind fun x_42 =>
      bif (((x_37.Keys).length:Int)) != (((x_42.Keys).length:Int)) then some true else
      some ((((x_37.Worlds).length:Int)) != (w64 ((((f_1.Pairs).length:Int))+1)))
     ) fun v_38 =>
     bif v_38 then some 240 else
     (M29 x_37.Worlds).bind fun r_45 =>
     M41 f_1 r_45 (M42 v_32 (M43 f_1 k_35 n_33) x_37) (((((r_45).length:Int)) - 0:Int).toNat+1) 0
    else
    k_35 ()
def M44 (f_1:TField) (_:Unit):Option (Int) :=
 (M39 f_1).bind fun r_57 =>
 bif !r_57 then some 240 else
 some 0
def M45 (f_1:TField) (_:Unit):Option (Int) :=
 M43 f_1 (M44 f_1) (((((f_1.Runners).length:Int)) - 0:Int).toNat+1) 0 0
def M46 (f_1:TField):Option (Int) :=
 Option.bind (
  (M25 f_1.Clocks).bind fun r_5 =>
  bif r_5 != 0 then some true else
  bif decide ((((f_1.Pairs).length:Int)) > 16) then some true else
  bif decide ((((f_1.Runners).length:Int)) < 1) then some true else
  some (decide ((((f_1.Runners).length:Int)) > 4000))
 ) fun v_3 =>
 bif v_3 then some 240 else
 M40 f_1 (M45 f_1) (((((f_1.Pairs).length:Int)) - 0:Int).toNat+1) 0 0 0
def M47 (f_1:TField) (runners_2:List Int) (k_11:Unit→Option (Int)):Nat→Int→Option (Int)
  | 0,_=>none
  | n_9+1,v_8 =>
    bif decide (v_8 < (((runners_2).length:Int))) then
     (idx runners_2 v_8).bind fun x_13 =>
     bif decide (x_13 < 0) then some 250 else
     bif decide (x_13≥(((f_1.Runners).length:Int))) then some 250 else
     (M47 f_1 runners_2 k_11 n_9) ((w64 (v_8+1)))
    else
    k_11 ()
def M48 (_:Unit):Option (Int) :=
 some 0
def M49 (f_1:TField) (runners_2:List Int):Option (Int) :=
 (M46 f_1).bind fun r_4 =>
 bif r_4 != 0 then some 240 else
 M47 f_1 runners_2 M48 (((((runners_2).length:Int)) - 0:Int).toNat+1) 0
def M50 (f_1:TField):Option (List TSegment × List (List Int) × List TPair × List TRunner) :=
 some (f_1.Clocks.Segments,f_1.Clocks.Far,f_1.Pairs,f_1.Runners)
def M51 (r_1:TRunner) (c_2:Int):Option (Bool) :=
 (idx r_1.Worlds c_2).bind fun x_4 =>
 some ((((x_4).length:Int)) == 0)
def M52 (s_1:List TRunner) (c_2:Int) (k_8:Unit→Option (Int)):Nat→Int→Option (Int)
  | 0,_=>none
  | n_6+1,v_5 =>
    bif decide (v_5 < (((s_1).length:Int))) then
     (idx s_1 v_5).bind fun x_10 =>
     (M51 x_10 c_2).bind fun r_11 =>
     bif r_11 then some v_5 else
     (M52 s_1 c_2 k_8 n_6) ((w64 (v_5+1)))
    else
    k_8 ()
def M53 (_:Unit):Option (Int) :=
 some (-1)
def M54 (s_1:List TRunner) (c_2:Int):Option (Int) :=
 M52 s_1 c_2 M53 (((((s_1).length:Int)) - 0:Int).toNat+1) 0
def M55 (s_1:List TRunner) (c_2:Int):Option (Bool) :=
 (M54 s_1 c_2).bind fun r_4 =>
 some (decide (r_4≥0))
def M56 (c_3:List TPair) (c_4:List TRunner) (k_9:Unit→Option (List Int)):Nat→Int→Option (List Int)
  | 0,_=>none
  | n_7+1,v_6 =>
    bif decide (v_6 < (w64 ((((c_3).length:Int))+1))) then
     (M55 c_4 v_6).bind fun r_11 =>
     bif !r_11 then
      Option.bind (
       (M56 c_3 c_4 k_9 n_7) ((w64 (v_6+1)))
      ) fun l=>some (v_6::l)
     else
     (M56 c_3 c_4 k_9 n_7) ((w64 (v_6+1)))
    else
    k_9 ()
def M57 (_:Unit):Option (List Int) :=
 some []
def M58 (c_1:List TSegment) (c_2:List (List Int)) (c_3:List TPair) (c_4:List TRunner):Option (List Int) :=
 M56 c_3 c_4 M57 (((w64 ((((c_3).length:Int))+1)) - 0:Int).toNat+1) 0
def M59 (x_1:TOutcome):Option (Bool) :=
 some x_1.Out
def M60 (s_1:List TOutcome) (k_7:Unit→Option (Int)):Nat→Int→Option (Int)
  | 0,_=>none
  | n_5+1,v_4 =>
    bif decide (v_4 < (((s_1).length:Int))) then
     (idx s_1 v_4).bind fun x_9 =>
     (M59 x_9).bind fun r_10 =>
     bif r_10 then some v_4 else
     (M60 s_1 k_7 n_5) ((w64 (v_4+1)))
    else
    k_7 ()
def M61 (_:Unit):Option (Int) :=
 some (-1)
def M62 (s_1:List TOutcome):Option (Int) :=
 M60 s_1 M61 (((((s_1).length:Int)) - 0:Int).toNat+1) 0
def M63 (s_1:List TOutcome):Option (Bool) :=
 (M62 s_1).bind fun r_3 =>
 some (decide (r_3≥0))
def M64:Option (Unit) :=
 some ()
def M65 (n_1:Int) (m_2:Int):Option (Bool) :=
 some (decide (n_1 < m_2))
def M66 (x_1:TOutcome):Option (Int) :=
 some x_1.Hi
def M67 (far_1:List (List Int)) (a_2:Int) (b_3:Int):Option (Int) :=
 (idx far_1 a_2).bind fun x_5 =>
 (idx x_5 b_3).bind fun x_6 =>
 some x_6
def M68 (x_1:TOutcome):Option (Int) :=
 some x_1.Lo
def M69 (s_1:List Int) (s_2:List Int) (k_8:Unit→Option (Int)):Nat→Int→Option (Int)
  | 0,_=>none
  | n_6+1,v_5 =>
    bif decide (v_5 < (((s_1).length:Int))) then
     (idx s_1 v_5).bind fun x_10 =>
     bif decide (v_5≥(((s_2).length:Int))) then some 1 else
     (idx s_2 v_5).bind fun x_12 =>
     (M4 x_10 x_12).bind fun r_13 =>
     bif r_13 != 0 then some r_13 else
     (M69 s_1 s_2 k_8 n_6) ((w64 (v_5+1)))
    else
    k_8 ()
def M70 (s_1:List Int) (s_2:List Int) (_:Unit):Option (Int) :=
 bif decide ((((s_1).length:Int)) < (((s_2).length:Int))) then some (-1) else
 some 0
def M71 (s_1:List Int) (s_2:List Int):Option (Int) :=
 M69 s_1 s_2 (M70 s_1 s_2) (((((s_1).length:Int)) - 0:Int).toNat+1) 0
def M72 (f_1:TField) (runner_2:Int) (x_3:TOutcome) (rival_4:Int) (y_5:TOutcome):Option (Bool) :=
 bif y_5.Out then some false else
 (M66 y_5).bind fun r_8 =>
 (M67 f_1.Clocks.Far ((w64 (x_3.Seg+1))) ((w64 (y_5.Seg+1)))).bind fun r_10 =>
 (M68 x_3).bind fun r_12 =>
 bif decide ((w64 ((w64 (r_8+r_10)) - r_12)) < 0) then some true else
 bif (w64 ((w64 (r_8+r_10)) - r_12)) == 0 then
  (idx f_1.Runners rival_4).bind fun x_16 =>
  (idx f_1.Runners runner_2).bind fun x_17 =>
  (M71 x_16.Keys x_17.Keys).bind fun r_18 =>
  some (decide (r_18 < 0))
 else
 some false
def M73 (f_1:TField) (runner_3:Int) (x_4:TOutcome) (rival_5:Int) (r_8:Bool) (x_11:List TOutcome) (k_16:Unit→Option (Int × Bool)):Nat→Int→Option (Int × Bool)
  | 0,_=>none
  | n_14+1,v_13 =>
    bif decide (v_13 < (((x_11).length:Int))) then
     (idx x_11 v_13).bind fun x_18 =>
     (M72 f_1 runner_3 x_4 rival_5 x_18).bind fun r_19 =>
     bif r_19 == r_8 then some (v_13,r_8) else
     (M73 f_1 runner_3 x_4 rival_5 r_8 x_11 k_16 n_14) ((w64 (v_13+1)))
    else
    k_16 ()
def M74 (r_8:Bool) (_:Unit):Option (Int × Bool) :=
 some (0,(!r_8))
def M75 (f_1:TField) (w_2:Int) (runner_3:Int) (x_4:TOutcome) (rival_5:Int):Option (Int × Bool) :=
 (M65 2 1).bind fun r_8 =>
 (idx f_1.Runners rival_5).bind fun x_10 =>
 (idx x_10.Worlds w_2).bind fun x_11 =>
 M73 f_1 runner_3 x_4 rival_5 r_8 x_11 (M74 r_8) (((((x_11).length:Int)) - 0:Int).toNat+1) 0
def M76 (f_1:TField) (runner_2:Int) (y_12:Int) (x_42:TOutcome):Nat→Int→Int→Option (Int)
  | 0,_,_=>none
  | n_48+1,n_46,v_47 =>
    bif decide (v_47 < (((f_1.Runners).length:Int))) then
     bif v_47 == runner_2 then (M76 f_1 runner_2 y_12 x_42 n_48) n_46 ((w64 (v_47+1))) else
     (M75 f_1 y_12 runner_2 x_42 v_47).bind fun (r_54,r_55) =>
     bif r_55 then (M76 f_1 runner_2 y_12 x_42 n_48) ((w64 (n_46+1))) ((w64 (v_47+1))) else
     (M76 f_1 runner_2 y_12 x_42 n_48) n_46 ((w64 (v_47+1)))
    else
    some n_46
def M77 (f_1:TField) (runner_2:Int) (y_12:Int) (x_23:List TOutcome):Nat→Int→Int→Int→Int→Bool→Option (Int × Int × Int × Bool)
  | 0,_,_,_,_,_=>none
  | n_34+1,v_29,v_30,v_31,v_32,v_33 =>
    bif decide (v_29 < (((x_23).length:Int))) then
     (idx x_23 v_29).bind fun x_42 =>
     bif x_42.Out then (M77 f_1 runner_2 y_12 x_23 n_34) ((w64 (v_29+1))) v_30 v_31 v_32 v_33 else
     (M76 f_1 runner_2 y_12 x_42 (((((f_1.Runners).length:Int)) - 0:Int).toNat+1) 1 0).bind fun n_49 =>
     Option.bind (
      bif !v_33 then some true else
      (M65 n_49 v_32).bind fun r_62 =>
      some r_62
     ) fun v_59 =>
     bif v_59 then (M77 f_1 runner_2 y_12 x_23 n_34) ((w64 (v_29+1))) y_12 v_29 n_49 true else
     (M77 f_1 runner_2 y_12 x_23 n_34) ((w64 (v_29+1))) v_30 v_31 v_32 v_33
    else
    some (v_30,v_31,v_32,v_33)
def M78 (f_1:TField) (runner_2:Int) (y:Int) (s:Int × Int × Int × Bool):Option (Int × Int × Int × Bool) :=
 match y,s with
 | y_12,(v_17,v_18,v_19,v_20) =>
  (idx f_1.Runners runner_2).bind fun x_22 =>
  (idx x_22.Worlds y_12).bind fun x_23 =>
  (M77 f_1 runner_2 y_12 x_23 (((((x_23).length:Int)) - 0:Int).toNat+1) 0 v_17 v_18 v_19 v_20).bind fun (v_35,v_36,v_37,v_38) =>
  some (v_35,v_36,v_37,v_38)
def M79 (f_1:TField) (runner_2:Int):Option (Tranks_place × Bool) :=
 (M50 f_1).bind fun (c_5,c_6,c_7,c_8) =>
 (M58 c_5 c_6 c_7 c_8).bind fun l_10 =>
 (foldO (M78 f_1 runner_2) l_10 (0,0,0,false)).bind fun (v_66,v_67,v_68,v_69) =>
 some (({ world:=v_66,outcome:=v_67,rank:=v_68 }:Tranks_place),v_69)
def M80:Option (Unit) :=
 some ()
def M81 (n_1:Int) (m_2:Int):Option (Bool) :=
 some (decide (n_1 > m_2))
def M82 (far_1:List (List Int)) (a_2:Int) (b_3:Int):Option (Int) :=
 (idx far_1 b_3).bind fun x_5 =>
 (idx x_5 a_2).bind fun x_6 =>
 some (w64 (0 - x_6))
def M83 (f_1:TField) (runner_2:Int) (x_3:TOutcome) (rival_4:Int) (y_5:TOutcome):Option (Bool) :=
 bif y_5.Out then some false else
 (M68 y_5).bind fun r_8 =>
 (M82 f_1.Clocks.Far ((w64 (x_3.Seg+1))) ((w64 (y_5.Seg+1)))).bind fun r_10 =>
 (M66 x_3).bind fun r_12 =>
 bif decide ((w64 ((w64 (r_8+r_10)) - r_12)) < 0) then some true else
 bif (w64 ((w64 (r_8+r_10)) - r_12)) == 0 then
  (idx f_1.Runners rival_4).bind fun x_16 =>
  (idx f_1.Runners runner_2).bind fun x_17 =>
  (M71 x_16.Keys x_17.Keys).bind fun r_18 =>
  some (decide (r_18 < 0))
 else
 some false
def M84 (f_1:TField) (runner_3:Int) (x_4:TOutcome) (rival_5:Int) (r_8:Bool) (x_11:List TOutcome) (k_16:Unit→Option (Int × Bool)):Nat→Int→Option (Int × Bool)
  | 0,_=>none
  | n_14+1,v_13 =>
    bif decide (v_13 < (((x_11).length:Int))) then
     (idx x_11 v_13).bind fun x_18 =>
     (M83 f_1 runner_3 x_4 rival_5 x_18).bind fun r_19 =>
     bif r_19 == r_8 then some (v_13,r_8) else
     (M84 f_1 runner_3 x_4 rival_5 r_8 x_11 k_16 n_14) ((w64 (v_13+1)))
    else
    k_16 ()
def M85 (r_8:Bool) (_:Unit):Option (Int × Bool) :=
 some (0,(!r_8))
def M86 (f_1:TField) (w_2:Int) (runner_3:Int) (x_4:TOutcome) (rival_5:Int):Option (Int × Bool) :=
 (M81 2 1).bind fun r_8 =>
 (idx f_1.Runners rival_5).bind fun x_10 =>
 (idx x_10.Worlds w_2).bind fun x_11 =>
 M84 f_1 runner_3 x_4 rival_5 r_8 x_11 (M85 r_8) (((((x_11).length:Int)) - 0:Int).toNat+1) 0
def M87 (f_1:TField) (runner_2:Int) (y_12:Int) (x_42:TOutcome):Nat→Int→Int→Option (Int)
  | 0,_,_=>none
  | n_48+1,n_46,v_47 =>
    bif decide (v_47 < (((f_1.Runners).length:Int))) then
     bif v_47 == runner_2 then (M87 f_1 runner_2 y_12 x_42 n_48) n_46 ((w64 (v_47+1))) else
     (M86 f_1 y_12 runner_2 x_42 v_47).bind fun (r_54,r_55) =>
     bif r_55 then (M87 f_1 runner_2 y_12 x_42 n_48) ((w64 (n_46+1))) ((w64 (v_47+1))) else
     (M87 f_1 runner_2 y_12 x_42 n_48) n_46 ((w64 (v_47+1)))
    else
    some n_46
def M88 (f_1:TField) (runner_2:Int) (y_12:Int) (x_23:List TOutcome):Nat→Int→Int→Int→Int→Bool→Option (Int × Int × Int × Bool)
  | 0,_,_,_,_,_=>none
  | n_34+1,v_29,v_30,v_31,v_32,v_33 =>
    bif decide (v_29 < (((x_23).length:Int))) then
     (idx x_23 v_29).bind fun x_42 =>
     bif x_42.Out then (M88 f_1 runner_2 y_12 x_23 n_34) ((w64 (v_29+1))) v_30 v_31 v_32 v_33 else
     (M87 f_1 runner_2 y_12 x_42 (((((f_1.Runners).length:Int)) - 0:Int).toNat+1) 1 0).bind fun n_49 =>
     Option.bind (
      bif !v_33 then some true else
      (M81 n_49 v_32).bind fun r_62 =>
      some r_62
     ) fun v_59 =>
     bif v_59 then (M88 f_1 runner_2 y_12 x_23 n_34) ((w64 (v_29+1))) y_12 v_29 n_49 true else
     (M88 f_1 runner_2 y_12 x_23 n_34) ((w64 (v_29+1))) v_30 v_31 v_32 v_33
    else
    some (v_30,v_31,v_32,v_33)
def M89 (f_1:TField) (runner_2:Int) (y:Int) (s:Int × Int × Int × Bool):Option (Int × Int × Int × Bool) :=
 match y,s with
 | y_12,(v_17,v_18,v_19,v_20) =>
  (idx f_1.Runners runner_2).bind fun x_22 =>
  (idx x_22.Worlds y_12).bind fun x_23 =>
  (M88 f_1 runner_2 y_12 x_23 (((((x_23).length:Int)) - 0:Int).toNat+1) 0 v_17 v_18 v_19 v_20).bind fun (v_35,v_36,v_37,v_38) =>
  some (v_35,v_36,v_37,v_38)
def M90 (f_1:TField) (runner_2:Int):Option (Tranks_place × Bool) :=
 (M50 f_1).bind fun (c_5,c_6,c_7,c_8) =>
 (M58 c_5 c_6 c_7 c_8).bind fun l_10 =>
 (foldO (M89 f_1 runner_2) l_10 (0,0,0,false)).bind fun (v_66,v_67,v_68,v_69) =>
 some (({ world:=v_66,outcome:=v_67,rank:=v_68 }:Tranks_place),v_69)
def M91 (f_1:TField) (runner_2:Int) (y:Int) (s:Bool):Option (Bool) :=
 match y,s with
 | y_12,v_14 =>
  bif v_14 then some true else
  (idx f_1.Runners runner_2).bind fun x_17 =>
  (idx x_17.Worlds y_12).bind fun x_18 =>
  (M63 x_18).bind fun r_19 =>
  some r_19
def M92 (f_1:TField) (runner_2:Int):Option (TRank) :=
 (idx f_1.Runners runner_2).bind fun x_4 =>
 (M50 f_1).bind fun (c_5,c_6,c_7,c_8) =>
 (M58 c_5 c_6 c_7 c_8).bind fun l_10 =>
 (foldO (M91 f_1 runner_2) l_10 (false)).bind fun v_21 =>
 (M64).bind fun _ =>
 (M79 f_1 runner_2).bind fun (r_23,r_24) =>
 bif !r_24 then some ({ Bib:=x_4.Bib,Kind:=3,Lo:=0,Hi:=0,Out:=v_21 }:TRank) else
 (M80).bind fun _ =>
 (M90 f_1 runner_2).bind fun (r_28,r_29) =>
 bif r_23.rank == r_28.rank then
  bif !v_21 then some ({ Bib:=x_4.Bib,Kind:=1,Lo:=r_23.rank,Hi:=r_28.rank,Out:=v_21 }:TRank) else
  some ({ Bib:=x_4.Bib,Kind:=2,Lo:=r_23.rank,Hi:=r_28.rank,Out:=v_21 }:TRank)
 else
 some ({ Bib:=x_4.Bib,Kind:=2,Lo:=r_23.rank,Hi:=r_28.rank,Out:=v_21 }:TRank)
def M93 (f_1:TField) (runner_2:Int):Option (TRank × Int) :=
 (M49 f_1 ((([runner_2]:List Int)))).bind fun r_5 =>
 bif r_5 != 0 then some (({ Bib:=0,Kind:=0,Lo:=0,Hi:=0,Out:=false }:TRank),r_5) else
 (M92 f_1 runner_2).bind fun r_8 =>
 some (r_8,0)
def M94 (f_1:TField) (a_2:Int) (b_3:Int) (x_38:TOutcome) (x_40:List TOutcome):Nat→Int→Bool→Bool→Option (Bool × Bool)
  | 0,_,_,_=>none
  | n_47+1,v_44,v_45,v_46 =>
    bif decide (v_44 < (((x_40).length:Int))) then
     Option.bind (
      (idx x_40 v_44).bind fun x_56 =>
      bif x_38.Out then some (false,v_46) else
      bif x_56.Out then some (v_45,true) else
      Option.bind (
       bif v_45 then
        (M64).bind fun _ =>
        (M72 f_1 b_3 x_56 a_2 x_38).bind fun r_63 =>
        some r_63
       else
       some false
      ) fun v_59 =>
      bif v_46 then some (v_59,true) else
      (M80).bind fun _ =>
      (M83 f_1 b_3 x_56 a_2 x_38).bind fun r_67 =>
      some (v_59,r_67)
     ) fun (v_53,v_54) =>
     (M94 f_1 a_2 b_3 x_38 x_40 n_47) ((w64 (v_44+1))) v_53 v_54
    else
    some (v_45,v_46)
def M95 (f_1:TField) (a_2:Int) (b_3:Int) (y_18:Int) (x_25:List TOutcome):Nat→Int→Bool→Bool→Option (Bool × Bool)
  | 0,_,_,_=>none
  | n_32+1,v_29,v_30,v_31 =>
    bif decide (v_29 < (((x_25).length:Int))) then
     (idx x_25 v_29).bind fun x_38 =>
     (idx f_1.Runners b_3).bind fun x_39 =>
     (idx x_39.Worlds y_18).bind fun x_40 =>
     (M94 f_1 a_2 b_3 x_38 x_40 (((((x_40).length:Int)) - 0:Int).toNat+1) 0 v_30 v_31).bind fun (v_48,v_49) =>
     (M95 f_1 a_2 b_3 y_18 x_25 n_32) ((w64 (v_29+1))) v_48 v_49
    else
    some (v_30,v_31)
def M96 (f_1:TField) (a_2:Int) (b_3:Int) (y:Int) (s:Bool × Bool):Option (Bool × Bool) :=
 match y,s with
 | y_18,(v_21,v_22) =>
  (idx f_1.Runners a_2).bind fun x_24 =>
  (idx x_24.Worlds y_18).bind fun x_25 =>
  (M95 f_1 a_2 b_3 y_18 x_25 (((((x_25).length:Int)) - 0:Int).toNat+1) 0 v_21 v_22).bind fun (v_33,v_34) =>
  some (v_33,v_34)
def M97 (f_1:TField) (a_2:Int) (b_3:Int):Option (Bool × Bool × Int) :=
 (M49 f_1 ((([a_2,b_3]:List Int)))).bind fun r_7 =>
 bif r_7 != 0 then some (false,false,r_7) else
 bif a_2 == b_3 then some (false,false,0) else
 (M50 f_1).bind fun (c_11,c_12,c_13,c_14) =>
 (M58 c_11 c_12 c_13 c_14).bind fun l_16 =>
 (foldO (M96 f_1 a_2 b_3) l_16 (true,false)).bind fun (v_71,v_72) =>
 some (v_71,v_72,0)
def M98:Option (Bool) :=
 (M1 ((([10,12,11,13]:List Int)))).bind fun r_2 =>
 (M93 r_2 0).bind fun (r_4,r_5) =>
 (M93 r_2 1).bind fun (r_7,r_8) =>
 (M1 ((([10,12,13,13]:List Int)))).bind fun r_10 =>
 (M93 r_10 0).bind fun (r_12,r_13) =>
 (M93 (({ Clocks:=({ Segments:=(([]:List TSegment)),Far:=(([]:List (List Int))) }:TClocks),Pairs:=(([]:List TPair)),Runners:=(([]:List TRunner)) }:TField)) 0).bind fun (r_15,r_16) =>
 (M93 r_2 (-1)).bind fun (r_18,r_19) =>
 (idx (([0,0]:List Int)) 0).bind fun x_21 =>
 (idx (([0,0]:List Int)) 1).bind fun x_22 =>
 (idx (([({ Out:=false,Seg:=(-1),Lo:=x_21,Hi:=x_22 }:TOutcome)]:List TOutcome)) 0).bind fun x_23 =>
 (M93 (({ Clocks:=({ Segments:=(([]:List TSegment)),Far:=(([(([0]:List Int))]:List (List Int))) }:TClocks),Pairs:=(([]:List TPair)),Runners:=(([({ Bib:=1,Keys:=(([]:List Int)),Worlds:=(([(List.set (([({ Out:=false,Seg:=(-1),Lo:=x_21,Hi:=x_22 }:TOutcome)]:List TOutcome)) (Int.toNat 0) ({ Out:=true,Seg:=(-1),Lo:=0,Hi:=0 }:TOutcome))]:List (List TOutcome))) }:TRunner)]:List TRunner)) }:TField)) 0).bind fun (r_24,r_25) =>
 (M97 r_2 0 0).bind fun (r_27,r_28,r_29) =>
 (M97 r_2 1 0).bind fun (r_31,r_32,r_33) =>
 some (((r_5 == 0) && (((r_4.Bib == 1) && ((r_4.Kind == 2) && ((r_4.Lo == 1) && ((r_4.Hi == 2) && ((r_4.Out == false) && true))))) && ((r_8 == 0) && ((r_7.Lo == 1) && ((r_7.Hi == 2) && ((r_13 == 0) && ((r_12.Kind == 1) && ((r_12.Lo == 1) && ((r_16 == 240) && (r_19 == 250)))))))))) && ((r_25 == 0) && (((r_24.Bib == 1) && ((r_24.Kind == 3) && ((r_24.Lo == 0) && ((r_24.Hi == 0) && ((r_24.Out == true) && true))))) && ((r_29 == 0) && ((!r_27) && ((!r_28) && ((r_33 == 0) && ((!r_31) && r_32))))))))
def M99 (x_9:TRunner) (k_16:Unit→Option (Bool)):Nat→Int→Option (Bool)
  | 0,_=>none
  | n_14+1,w_13 =>
    bif decide (w_13 < (((x_9.Worlds).length:Int))) then
     (idx x_9.Worlds w_13).bind fun x_18 =>
     bif decide ((((x_18).length:Int)) > 4) then some false else
     (M99 x_9 k_16 n_14) ((w64 (w_13+1)))
    else
    k_16 ()
def M100 (i_4:Int) (nx_6:Int→Option (Bool)) (_:Unit):Option (Bool) :=
 nx_6 ((w64 (i_4+1)))
def M101 (f_1:TField) (k_7:Unit→Option (Bool)):Nat→Int→Option (Bool)
  | 0,_=>none
  | n_5+1,i_4 =>
    bif decide (i_4 < (((f_1.Runners).length:Int))) then
     (idx f_1.Runners i_4).bind fun x_9 =>
     bif decide ((((x_9.Keys).length:Int)) > 5) then some false else
     bif decide ((((x_9.Worlds).length:Int)) > 4) then some false else
     M99 x_9 (M100 i_4 (M101 f_1 k_7 n_5)) (((((x_9.Worlds).length:Int)) - 0:Int).toNat+1) 0
    else
    k_7 ()
def M102 (f_1:TField) (k_24:Unit→Option (Bool)):Nat→Int→Option (Bool)
  | 0,_=>none
  | n_22+1,i_21 =>
    bif decide (i_21 < (((f_1.Clocks.Far).length:Int))) then
     (idx f_1.Clocks.Far i_21).bind fun x_26 =>
     bif decide ((((x_26).length:Int)) > 8) then some false else
     (M102 f_1 k_24 n_22) ((w64 (i_21+1)))
    else
    k_24 ()
def M103 (f_1:TField) (_:Unit):Option (Bool) :=
 some ((decide ((((f_1.Runners).length:Int))≤6)) && ((decide ((((f_1.Pairs).length:Int))≤3)) && ((decide ((((f_1.Clocks.Segments).length:Int))≤4)) && (decide ((((f_1.Clocks.Far).length:Int))≤6)))))
def M104 (f_1:TField) (_:Unit):Option (Bool) :=
 M102 f_1 (M103 f_1) (((((f_1.Clocks.Far).length:Int)) - 0:Int).toNat+1) 0
def M105 (f_1:TField):Option (Bool) :=
 M101 f_1 (M104 f_1) (((((f_1.Runners).length:Int)) - 0:Int).toNat+1) 0
def M106 (n_1:Int):Option (Bool) :=
 bif decide (n_1≥(-1099511627776)) then some (decide (n_1≤1099511627776)) else
 some false
def M107 (a_1:TSegment) (b_2:TSegment):Option (Bool) :=
 bif decide (a_1.Mat < b_2.Mat) then some true else
 bif a_1.Mat == b_2.Mat then some (decide (a_1.Epoch < b_2.Epoch)) else
 some false
def M108 (k_1:TClocks) (k_9:Unit→Option (Int)):Nat→Int→Option (Int)
  | 0,_=>none
  | n_7+1,i_6 =>
    bif decide (i_6 < (((k_1.Segments).length:Int))) then
     (idx k_1.Segments i_6).bind fun x_11 =>
     Option.bind (
      bif decide (x_11.Mat < 0) then some true else
      bif decide (x_11.Mat≥40) then some true else
      bif decide (x_11.Epoch < 0) then some true else
      bif decide (x_11.Epoch > 255) then some true else
      (M106 x_11.Anchor).bind fun r_18 =>
      bif !r_18 then some true else
      bif decide (i_6 > 0) then
       (idx k_1.Segments (w64 (i_6 - 1))).bind fun x_22 =>
       (M107 x_22 x_11).bind fun r_23 =>
       some (!r_23)
      else
      some false
     ) fun v_12 =>
     bif v_12 then some 160 else
     (M108 k_1 k_9 n_7) ((w64 (i_6+1)))
    else
    k_9 ()
def M109 (k_1:TClocks) (i_27:Int) (k_41:Unit→Option (Int)):Nat→Int→Option (Int)
  | 0,_=>none
  | n_39+1,j_38 =>
    bif decide (j_38≤(((k_1.Segments).length:Int))) then
     (idx k_1.Far i_27).bind fun x_43 =>
     (idx x_43 j_38).bind fun x_44 =>
     bif decide (x_44 < (-2199023255552)) then some 160 else
     (idx k_1.Far i_27).bind fun x_46 =>
     (idx x_46 j_38).bind fun x_47 =>
     bif decide (x_47 > 2199023255552) then some 160 else
     (M109 k_1 i_27 k_41 n_39) ((w64 (j_38+1)))
    else
    k_41 ()
def M110 (i_27:Int) (nx_29:Int→Option (Int)) (_:Unit):Option (Int) :=
 nx_29 ((w64 (i_27+1)))
def M111 (k_1:TClocks) (k_30:Unit→Option (Int)):Nat→Int→Option (Int)
  | 0,_=>none
  | n_28+1,i_27 =>
    bif decide (i_27≤(((k_1.Segments).length:Int))) then
     (idx k_1.Far i_27).bind fun x_32 =>
     bif (((x_32).length:Int)) != (w64 ((((k_1.Segments).length:Int))+1)) then some 160 else
     (idx k_1.Far i_27).bind fun x_34 =>
     (idx x_34 i_27).bind fun x_35 =>
     bif x_35 != 0 then some 160 else
     M109 k_1 i_27 (M110 i_27 (M111 k_1 k_30 n_28)) (((((k_1.Segments).length:Int))+1 - 0:Int).toNat+1) 0
    else
    k_30 ()
def M112 (k_1:TClocks) (i_50:Int) (j_56:Int) (k_65:Unit→Option (Int)):Nat→Int→Option (Int)
  | 0,_=>none
  | n_63+1,m_62 =>
    bif decide (m_62≤(((k_1.Segments).length:Int))) then
     (idx k_1.Far i_50).bind fun x_67 =>
     (idx x_67 m_62).bind fun x_68 =>
     (idx k_1.Far i_50).bind fun x_69 =>
     (idx x_69 j_56).bind fun x_70 =>
     (idx k_1.Far j_56).bind fun x_71 =>
     (idx x_71 m_62).bind fun x_72 =>
     bif decide (x_68 > (w64 (x_70+x_72))) then some 160 else
     (M112 k_1 i_50 j_56 k_65 n_63) ((w64 (m_62+1)))
    else
    k_65 ()
def M113 (j_56:Int) (nx_58:Int→Option (Int)) (_:Unit):Option (Int) :=
 nx_58 ((w64 (j_56+1)))
def M114 (k_1:TClocks) (i_50:Int) (k_59:Unit→Option (Int)):Nat→Int→Option (Int)
 | 0,_=>none
 | n_57+1,j_56 =>
  bif decide (j_56≤(((k_1.Segments).length:Int))) then M112 k_1 i_50 j_56 (M113 j_56 (M114 k_1 i_50 k_59 n_57)) (((((k_1.Segments).length:Int))+1 - 0:Int).toNat+1) 0 else
  k_59 ()
def M115 (i_50:Int) (nx_52:Int→Option (Int)) (_:Unit):Option (Int) :=
 nx_52 ((w64 (i_50+1)))
def M116 (k_1:TClocks) (k_53:Unit→Option (Int)):Nat→Int→Option (Int)
 | 0,_=>none
 | n_51+1,i_50 =>
  bif decide (i_50≤(((k_1.Segments).length:Int))) then M114 k_1 i_50 (M115 i_50 (M116 k_1 k_53 n_51)) (((((k_1.Segments).length:Int))+1 - 0:Int).toNat+1) 0 else
  k_53 ()
def M117 (_:Unit):Option (Int) :=
 some 0
def M118 (k_1:TClocks) (_:Unit):Option (Int) :=
 M116 k_1 M117 (((((k_1.Segments).length:Int))+1 - 0:Int).toNat+1) 0
def M119 (k_1:TClocks) (_:Unit):Option (Int) :=
 M111 k_1 (M118 k_1) (((((k_1.Segments).length:Int))+1 - 0:Int).toNat+1) 0
def M120 (k_1:TClocks):Option (Int) :=
 bif decide ((((k_1.Segments).length:Int)) > 511) then some 160 else
 bif (((k_1.Far).length:Int)) != (w64 ((((k_1.Segments).length:Int))+1)) then some 160 else
 M108 k_1 (M119 k_1) (((((k_1.Segments).length:Int)) - 0:Int).toNat+1) 0
def M121 (n_1:Int) (least_2:Int) (most_3:Int):Option (Bool) :=
 bif decide (n_1≥least_2) then some (decide (n_1≤most_3)) else
 some false
def M122 (n_1:Int):Option (Bool) :=
 (M121 n_1 1 9999).bind fun r_3 =>
 some r_3
def M123 (k_1:TClocks) (x_2:TOutcome):Option (Int) :=
 (M120 k_1).bind fun r_4 =>
 bif r_4 != 0 then some r_4 else
 bif bif x_2.Out then ((x_2.Seg != (-1)) || ((x_2.Lo != 0) || (x_2.Hi != 0))) else ((decide (x_2.Seg < (-1))) || ((decide (x_2.Seg≥(((k_1.Segments).length:Int)))) || ((decide (x_2.Lo < (-288230376151711744))) || ((decide (x_2.Lo > x_2.Hi)) || (decide (x_2.Hi > 288230376151711744)))))) then some 230 else
 some 0
def M124 (f_1:TField) (world_2:Int) (k_8:Unit→Option (Bool)):Nat→Int→Option (Bool)
  | 0,_=>none
  | n_6+1,i_5 =>
    bif decide (i_5 < (((f_1.Runners).length:Int))) then
     bif decide (world_2 < 0) then some false else
     (idx f_1.Runners i_5).bind fun x_11 =>
     bif decide (world_2≥(((x_11.Worlds).length:Int))) then some false else
     (idx f_1.Runners i_5).bind fun x_13 =>
     (idx x_13.Worlds world_2).bind fun x_14 =>
     bif (((x_14).length:Int)) == 0 then some false else
     (M124 f_1 world_2 k_8 n_6) ((w64 (i_5+1)))
    else
    k_8 ()
def M125 (_:Unit):Option (Bool) :=
 some true
def M126 (f_1:TField) (world_2:Int):Option (Bool) :=
 M124 f_1 world_2 M125 (((((f_1.Runners).length:Int)) - 0:Int).toNat+1) 0
def M127 (f_1:TField) (k_7:Unit→Option (Bool)):Nat→Int→Option (Bool)
  | 0,_=>none
  | n_5+1,w_4 =>
    bif decide (w_4≤(((f_1.Pairs).length:Int))) then
     (M126 f_1 w_4).bind fun r_9 =>
     bif r_9 then some true else
     (M127 f_1 k_7 n_5) ((w64 (w_4+1)))
    else
    k_7 ()
def M128 (_:Unit):Option (Bool) :=
 some false
def M129 (f_1:TField):Option (Bool) :=
 M127 f_1 M128 (((((f_1.Pairs).length:Int))+1 - 0:Int).toNat+1) 0
def M130 (f_1:TField) (k_15:Unit→Option (Int)):Nat→Int→Option (Int)
  | 0,_=>none
  | n_13+1,i_12 =>
    bif decide (i_12 < (((f_1.Pairs).length:Int))) then
     (idx f_1.Pairs i_12).bind fun x_17 =>
     bif decide (x_17.A < 1) then some 240 else
     bif decide (x_17.A≥x_17.B) then some 240 else
     bif decide (x_17.B > 9999) then some 240 else
     Option.bind (
      bif decide (i_12 > 0) then
       (idx f_1.Pairs (w64 (i_12 - 1))).bind fun x_24 =>
       bif decide (x_24.A > x_17.A) then some true else
       (idx f_1.Pairs (w64 (i_12 - 1))).bind fun x_26 =>
       bif x_26.A == x_17.A then
        (idx f_1.Pairs (w64 (i_12 - 1))).bind fun x_28 =>
        some (decide (x_28.B≥x_17.B))
       else
       some false
      else
      some false
     ) fun v_21 =>
     bif v_21 then some 240 else
     (M130 f_1 k_15 n_13) ((w64 (i_12+1)))
    else
    k_15 ()
def M131 (f_1:TField) (x_36:TRunner) (w_51:Int) (k_60:Unit→Option (Int)):Nat→Int→Option (Int)
  | 0,_=>none
  | n_58+1,n_57 =>
    (idx x_36.Worlds w_51).bind fun x_61 =>
    bif decide (n_57 < (((x_61).length:Int))) then
     (idx x_36.Worlds w_51).bind fun x_63 =>
     (idx x_63 n_57).bind fun x_64 =>
     (M123 f_1.Clocks x_64).bind fun r_65 =>
     bif r_65 != 0 then some 240 else
     (M131 f_1 x_36 w_51 k_60 n_58) ((w64 (n_57+1)))
    else
    k_60 ()
def M132 (w_51:Int) (nx_53:Int→Option (Int)) (_:Unit):Option (Int) :=
 nx_53 ((w64 (w_51+1)))
def M133 (f_1:TField) (x_36:TRunner) (k_54:Unit→Option (Int)):Nat→Int→Option (Int)
 | 0,_=>none
 | n_52+1,w_51 =>
  bif decide (w_51 < (((x_36.Worlds).length:Int))) then M131 f_1 x_36 w_51 (M132 w_51 (M133 f_1 x_36 k_54 n_52)) ((((((Option.getD (idx x_36.Worlds w_51) default)).length:Int)) - 0:Int).toNat+1) 0 else
  k_54 ()
def M134 (i_31:Int) (nx_33:Int→Option (Int)) (_:Unit):Option (Int) :=
 nx_33 ((w64 (i_31+1)))
def M135 (f_1:TField) (k_34:Unit→Option (Int)):Nat→Int→Option (Int)
  | 0,_=>none
  | n_32+1,i_31 =>
    bif decide (i_31 < (((f_1.Runners).length:Int))) then
     (idx f_1.Runners i_31).bind fun x_36 =>
     Option.bind (
      (M122 x_36.Bib).bind fun r_39 =>
      bif !r_39 then some true else
      bif decide (i_31 > 0) then
       (idx f_1.Runners (w64 (i_31 - 1))).bind fun x_43 =>
       bif decide (x_43.Bib≥x_36.Bib) then some true else
       (idx f_1.Runners 0).bind fun x_45 =>
       bif (((x_36.Keys).length:Int)) != (((x_45.Keys).length:Int)) then some true else
       some ((((x_36.Worlds).length:Int)) != (w64 ((((f_1.Pairs).length:Int))+1)))
      else
      (idx f_1.Runners 0).bind fun x_47 =>
      bif (((x_36.Keys).length:Int)) != (((x_47.Keys).length:Int)) then some true else
      some ((((x_36.Worlds).length:Int)) != (w64 ((((f_1.Pairs).length:Int))+1)))
     ) fun v_37 =>
     bif v_37 then some 240 else
     M133 f_1 x_36 (M134 i_31 (M135 f_1 k_34 n_32)) (((((x_36.Worlds).length:Int)) - 0:Int).toNat+1) 0
    else
    k_34 ()
def M136 (f_1:TField) (_:Unit):Option (Int) :=
 (M129 f_1).bind fun r_68 =>
 bif !r_68 then some 240 else
 some 0
def M137 (f_1:TField) (_:Unit):Option (Int) :=
 M135 f_1 (M136 f_1) (((((f_1.Runners).length:Int)) - 0:Int).toNat+1) 0
def M138 (f_1:TField):Option (Int) :=
 Option.bind (
  (M120 f_1.Clocks).bind fun r_5 =>
  bif r_5 != 0 then some true else
  bif decide ((((f_1.Pairs).length:Int)) > 16) then some true else
  bif decide ((((f_1.Runners).length:Int)) < 1) then some true else
  some (decide ((((f_1.Runners).length:Int)) > 4000))
 ) fun v_3 =>
 bif v_3 then some 240 else
 M130 f_1 (M137 f_1) (((((f_1.Pairs).length:Int)) - 0:Int).toNat+1) 0
def M139 (f_1:TField):Nat→Int→Int→Option (Int)
  | 0,_,_=>none
  | n_16+1,n_14,v_15 =>
    bif decide (v_15 < (((f_1.Clocks.Segments).length:Int))) then
     (idx f_1.Clocks.Far 0).bind fun x_21 =>
     (idx x_21 (w64 (v_15+1))).bind fun x_22 =>
     (idx f_1.Clocks.Far (w64 (v_15+1))).bind fun x_23 =>
     (idx x_23 0).bind fun x_24 =>
     (M139 f_1 n_16) ((minG 1048576 (w64 (n_14 * (maxG 0 (minG 1048576 (w64 ((w64 (x_22+x_24))+1)))))))) ((w64 (v_15+1)))
    else
    some n_14
def M140 (x_36:List TOutcome):Nat→Int→Int→Option (Int)
  | 0,_,_=>none
  | n_41+1,m_39,v_40 =>
    bif decide (v_40 < (((x_36).length:Int))) then
     (idx x_36 v_40).bind fun x_46 =>
     (M140 x_36 n_41) ((minG 1048576 (w64 ((w64 ((w64 (m_39+x_46.Hi)) - x_46.Lo))+1)))) ((w64 (v_40+1)))
    else
    some m_39
def M141 (f_1:TField) (v_6:Int):Nat→Int→Int→Option (Int)
  | 0,_,_=>none
  | n_30+1,n_28,v_29 =>
    bif decide (v_29 < (((f_1.Runners).length:Int))) then
     (idx f_1.Runners v_29).bind fun x_35 =>
     (idx x_35.Worlds v_6).bind fun x_36 =>
     (M140 x_36 (((((x_36).length:Int)) - 0:Int).toNat+1) 0 0).bind fun m_42 =>
     (M141 f_1 v_6 n_30) ((minG 1048576 (w64 (n_28 * m_42)))) ((w64 (v_29+1)))
    else
    some n_28
def M142 (f_1:TField):Nat→Int→Int→Option (Int)
  | 0,_,_=>none
  | n_7+1,all_5,v_6 =>
    bif decide (v_6 < (w64 ((((f_1.Pairs).length:Int))+1))) then
     (M139 f_1 (((((f_1.Clocks.Segments).length:Int)) - 0:Int).toNat+1) 1 0).bind fun n_17 =>
     (M141 f_1 v_6 (((((f_1.Runners).length:Int)) - 0:Int).toNat+1) n_17 0).bind fun n_31 =>
     (M142 f_1 n_7) ((w64 (all_5+n_31))) ((w64 (v_6+1)))
    else
    some all_5
def M143 (f_1:TField):Option (Int) :=
 (M142 f_1 (((w64 ((((f_1.Pairs).length:Int))+1)) - 0:Int).toNat+1) 0 0).bind fun all_8 =>
 some all_8
def M144 (f_1:TField) (world_2:Int) (k_10:Unit→Option (Bool)):Nat→Int→Option (Bool)
  | 0,_=>none
  | n_8+1,i_7 =>
    bif decide (i_7 < (((f_1.Runners).length:Int))) then
     (idx f_1.Runners i_7).bind fun x_12 =>
     bif decide (world_2≥(((x_12.Worlds).length:Int))) then some false else
     (idx f_1.Runners i_7).bind fun x_14 =>
     (idx x_14.Worlds world_2).bind fun x_15 =>
     bif (((x_15).length:Int)) == 0 then some false else
     (M144 f_1 world_2 k_10 n_8) ((w64 (i_7+1)))
    else
    k_10 ()
def M145 (_:Unit):Option (Bool) :=
 some true
def M146 (f_1:TField) (world_2:Int):Option (Bool) :=
 bif decide (world_2 < 0) then some false else
 bif decide (world_2 > (((f_1.Pairs).length:Int))) then some false else
 M144 f_1 world_2 M145 (((((f_1.Runners).length:Int)) - 0:Int).toNat+1) 0
def M147 (l_9:List Int) (k_14:Unit→Option (Bool)):Nat→Int→Option (Bool)
  | 0,_=>none
  | n_12+1,i_11 =>
    bif decide (i_11 < (((l_9).length:Int))) then
     (idx l_9 i_11).bind fun x_16 =>
     bif decide (x_16 < (-1125899906842624)) then some false else
     (idx l_9 i_11).bind fun x_18 =>
     bif decide (x_18 > 1125899906842624) then some false else
     (M147 l_9 k_14 n_12) ((w64 (i_11+1)))
    else
    k_14 ()
def M148 (f_1:TField) (l_9:List Int) (i_21:Int) (k_30:Unit→Option (Bool)):Nat→Int→Option (Bool)
  | 0,_=>none
  | n_28+1,k_27 =>
    bif decide (k_27 < (((l_9).length:Int))) then
     (idx l_9 k_27).bind fun x_32 =>
     (idx l_9 i_21).bind fun x_33 =>
     (idx f_1.Clocks.Far i_21).bind fun x_34 =>
     (idx x_34 k_27).bind fun x_35 =>
     bif decide ((w64 (x_32 - x_33)) > x_35) then some false else
     (M148 f_1 l_9 i_21 k_30 n_28) ((w64 (k_27+1)))
    else
    k_30 ()
def M149 (i_21:Int) (nx_23:Int→Option (Bool)) (_:Unit):Option (Bool) :=
 nx_23 ((w64 (i_21+1)))
def M150 (f_1:TField) (l_9:List Int) (k_24:Unit→Option (Bool)):Nat→Int→Option (Bool)
 | 0,_=>none
 | n_22+1,i_21 =>
  bif decide (i_21 < (((l_9).length:Int))) then M148 f_1 l_9 i_21 (M149 i_21 (M150 f_1 l_9 k_24 n_22)) (((((l_9).length:Int)) - 0:Int).toNat+1) 0 else
  k_24 ()
def M151 (f_1:TField) (h_2:THistory) (k_41:Unit→Option (Bool)):Nat→Int→Option (Bool)
  | 0,_=>none
  | n_39+1,i_38 =>
    bif decide (i_38 < (((h_2.Choices).length:Int))) then
     (idx f_1.Runners i_38).bind fun x_43 =>
     (idx x_43.Worlds h_2.World).bind fun x_44 =>
     (idx h_2.Choices i_38).bind fun x_45 =>
     bif decide (x_45.Outcome < 0) then some false else
     bif decide (x_45.Outcome≥(((x_44).length:Int))) then some false else
     (idx x_44 x_45.Outcome).bind fun x_48 =>
     bif bif x_48.Out then (x_45.X != 0) else ((decide (x_45.X < x_48.Lo)) || (decide (x_45.X > x_48.Hi))) then some false else
     (M151 f_1 h_2 k_41 n_39) ((w64 (i_38+1)))
    else
    k_41 ()
def M152 (_:Unit):Option (Bool) :=
 some true
def M153 (f_1:TField) (h_2:THistory) (_:Unit):Option (Bool) :=
 M151 f_1 h_2 M152 (((((h_2.Choices).length:Int)) - 0:Int).toNat+1) 0
def M154 (f_1:TField) (h_2:THistory) (l_9:List Int) (_:Unit):Option (Bool) :=
 M150 f_1 l_9 (M153 f_1 h_2) (((((l_9).length:Int)) - 0:Int).toNat+1) 0
def M155 (f_1:TField) (h_2:THistory):Option (Bool) :=
 (M146 f_1 h_2.World).bind fun r_4 =>
 bif !r_4 then some false else
 bif (((h_2.Offsets).length:Int)) != (((f_1.Clocks.Segments).length:Int)) then some false else
 bif (((h_2.Choices).length:Int)) != (((f_1.Runners).length:Int)) then some false else
 (app 8 (([0]:List Int)) h_2.Offsets).bind fun l_9 =>
 M147 l_9 (M154 f_1 h_2 l_9) (((((l_9).length:Int)) - 0:Int).toNat+1) 0
def M156 (f_1:TField) (h_2:THistory) (runner_3:Int):Option (TOutcome) :=
 (idx f_1.Runners runner_3).bind fun x_5 =>
 (idx x_5.Worlds h_2.World).bind fun x_6 =>
 (idx h_2.Choices runner_3).bind fun x_7 =>
 (idx x_6 x_7.Outcome).bind fun x_8 =>
 some x_8
def M157 (h_1:THistory) (x_2:TOutcome):Option (Int) :=
 bif decide (x_2.Seg < 0) then some 0 else
 (idx h_1.Offsets x_2.Seg).bind fun x_5 =>
 some x_5
def M158 (f_1:TField) (h_2:THistory) (runner_3:Int):Option (Int × Bool) :=
 (M156 f_1 h_2 runner_3).bind fun r_6 =>
 bif r_6.Out then some (0,false) else
 (idx h_2.Choices runner_3).bind fun x_9 =>
 (M157 h_2 r_6).bind fun r_10 =>
 some ((w64 (x_9.X+r_10)),true)
def M159 (a_1:List Int) (b_2:List Int) (k_8:Unit→Option (Bool)):Nat→Int→Option (Bool)
  | 0,_=>none
  | n_6+1,i_5 =>
    bif decide (i_5 < (((a_1).length:Int))) then
     bif decide (i_5 < (((b_2).length:Int))) then
      (idx a_1 i_5).bind fun x_11 =>
      (idx b_2 i_5).bind fun x_12 =>
      bif x_11 != x_12 then
       (idx a_1 i_5).bind fun x_14 =>
       (idx b_2 i_5).bind fun x_15 =>
       some (decide (x_14 < x_15))
      else
      (M159 a_1 b_2 k_8 n_6) ((w64 (i_5+1)))
     else
     k_8 ()
    else
    k_8 ()
def M160 (a_1:List Int) (b_2:List Int) (_:Unit):Option (Bool) :=
 some (decide ((((a_1).length:Int)) < (((b_2).length:Int))))
def M161 (a_1:List Int) (b_2:List Int):Option (Bool) :=
 M159 a_1 b_2 (M160 a_1 b_2) (((((a_1).length:Int)) - 0:Int).toNat+1) 0
def M162 (f_1:TField) (h_2:THistory) (a_3:Int) (b_4:Int):Option (Bool) :=
 (M158 f_1 h_2 a_3).bind fun (r_6,r_7) =>
 (M158 f_1 h_2 b_4).bind fun (r_9,r_10) =>
 bif !r_7 then some r_7 else
 bif !r_10 then some r_7 else
 bif decide (r_6 < r_9) then some true else
 bif r_6 == r_9 then
  (idx f_1.Runners a_3).bind fun x_16 =>
  (idx f_1.Runners b_4).bind fun x_17 =>
  (M161 x_16.Keys x_17.Keys).bind fun r_18 =>
  some r_18
 else
 some false
def M163 (f_1:TField) (h_2:THistory) (runner_3:Int):Nat→Int→Int→Option (Int)
  | 0,_,_=>none
  | n_13+1,n_11,i_12 =>
    bif decide (i_12 < (((f_1.Runners).length:Int))) then
     (M162 f_1 h_2 i_12 runner_3).bind fun r_18 =>
     bif r_18 then (M163 f_1 h_2 runner_3 n_13) ((w64 (n_11+1))) ((w64 (i_12+1))) else
     (M163 f_1 h_2 runner_3 n_13) n_11 ((w64 (i_12+1)))
    else
    some n_11
def M164 (f_1:TField) (h_2:THistory) (runner_3:Int):Option (Int) :=
 (M158 f_1 h_2 runner_3).bind fun (r_5,r_6) =>
 bif !r_6 then some 0 else
 (M163 f_1 h_2 runner_3 (((((f_1.Runners).length:Int)) - 0:Int).toNat+1) 1 0).bind fun n_14 =>
 some n_14
def M165 (f_1:TField) (at_2:Int) (v_3:Int) (v_6:List TSegment) (v_7:List (List Int)) (v_8:List TPair) (v_9:List TRunner) (v_10:Int) (rc_9060:TField→Int→Int→(List Int)→(List TChoice)→(List TSegment)→(List (List Int))→(List TPair)→(List TRunner)→Int→Bool→Int→Int→Option (List Int × List TChoice × Bool × Int × Int)):Nat→Int→(List Int)→(List TChoice)→Bool→Int→Int→Option (List Int × List TChoice × Bool × Int × Int)
  | 0,_,_,_,_,_,_=>none
  | n_43+1,o_37,l_38,l_39,v_40,v_41,v_42 =>
    (idx f_1.Clocks.Far 0).bind fun x_51 =>
    (idx x_51 (w64 (at_2+1))).bind fun x_52 =>
    bif decide (o_37≤x_52) then
     (idx l_38 at_2).bind fun x_54 =>
     (rc_9060 f_1 ((w64 (at_2+1))) v_3 ((List.set l_38 (Int.toNat at_2) o_37)) l_39 v_6 v_7 v_8 v_9 v_10 v_40 v_41 v_42).bind fun (l_55,l_56,b_57,b_58,b_59) =>
     (lenIs l_55 (List.set l_38 (Int.toNat at_2) o_37)).bind fun _ =>
     (lenIs l_56 l_39).bind fun _ =>
     (M165 f_1 at_2 v_3 v_6 v_7 v_8 v_9 v_10 rc_9060 n_43) ((w64 (o_37+1))) l_55 l_56 b_57 b_58 b_59
    else
    some (l_38,l_39,v_40,v_41,v_42)
def M166 (f_1:TField) (at_2:Int) (v_3:Int) (v_6:List TSegment) (v_7:List (List Int)) (v_8:List TPair) (v_9:List TRunner) (v_10:Int) (v_74:Int) (x_89:TOutcome) (rc_9060:TField→Int→Int→(List Int)→(List TChoice)→(List TSegment)→(List (List Int))→(List TPair)→(List TRunner)→Int→Bool→Int→Int→Option (List Int × List TChoice × Bool × Int × Int)):Nat→Int→(List Int)→(List TChoice)→Bool→Int→Int→Option (List Int × List TChoice × Bool × Int × Int)
  | 0,_,_,_,_,_,_=>none
  | n_102+1,t_96,l_97,l_98,v_99,v_100,v_101 =>
    bif decide (t_96≤x_89.Hi) then
     (idx l_98 (w64 (at_2 - (((f_1.Clocks.Segments).length:Int))))).bind fun x_111 =>
     (rc_9060 f_1 ((w64 (at_2+1))) v_3 l_97 ((List.set l_98 (Int.toNat (w64 (at_2 - (((f_1.Clocks.Segments).length:Int))))) ({ Outcome:=v_74,X:=t_96 }:TChoice))) v_6 v_7 v_8 v_9 v_10 v_99 v_100 v_101).bind fun (l_112,l_113,b_114,b_115,b_116) =>
     (lenIs l_112 l_97).bind fun _ =>
     (lenIs l_113 (List.set l_98 (Int.toNat (w64 (at_2 - (((f_1.Clocks.Segments).length:Int))))) ({ Outcome:=v_74,X:=t_96 }:TChoice))).bind fun _ =>
     (M166 f_1 at_2 v_3 v_6 v_7 v_8 v_9 v_10 v_74 x_89 rc_9060 n_102) ((w64 (t_96+1))) l_112 l_113 b_114 b_115 b_116
    else
    some (l_97,l_98,v_99,v_100,v_101)
def M167 (f_1:TField) (at_2:Int) (v_3:Int) (v_6:List TSegment) (v_7:List (List Int)) (v_8:List TPair) (v_9:List TRunner) (v_10:Int) (x_67:List TOutcome) (rc_9060:TField→Int→Int→(List Int)→(List TChoice)→(List TSegment)→(List (List Int))→(List TPair)→(List TRunner)→Int→Bool→Int→Int→Option (List Int × List TChoice × Bool × Int × Int)):Nat→Int→(List Int)→(List TChoice)→Bool→Int→Int→Option (List Int × List TChoice × Bool × Int × Int)
  | 0,_,_,_,_,_,_=>none
  | n_80+1,v_74,l_75,l_76,v_77,v_78,v_79 =>
    bif decide (v_74 < (((x_67).length:Int))) then
     (idx x_67 v_74).bind fun x_89 =>
     (M166 f_1 at_2 v_3 v_6 v_7 v_8 v_9 v_10 v_74 x_89 rc_9060 ((x_89.Hi+1 - x_89.Lo:Int).toNat+1) x_89.Lo l_75 l_76 v_77 v_78 v_79).bind fun (l_103,l_104,v_105,v_106,v_107) =>
     (M167 f_1 at_2 v_3 v_6 v_7 v_8 v_9 v_10 x_67 rc_9060 n_80) ((w64 (v_74+1))) l_103 l_104 v_105 v_106 v_107
    else
    some (l_75,l_76,v_77,v_78,v_79)
def M168 (rc_9060:TField→Int→Int→(List Int)→(List TChoice)→(List TSegment)→(List (List Int))→(List TPair)→(List TRunner)→Int→Bool→Int→Int→Option (List Int × List TChoice × Bool × Int × Int)) (f_1:TField) (at_2:Int) (v_3:Int) (l_4:List Int) (l_5:List TChoice) (v_6:List TSegment) (v_7:List (List Int)) (v_8:List TPair) (v_9:List TRunner) (v_10:Int) (v_11:Bool) (v_12:Int) (v_13:Int):Option (List Int × List TChoice × Bool × Int × Int) :=
 bif at_2 == (w64 ((((f_1.Clocks.Segments).length:Int))+(((f_1.Runners).length:Int)))) then
  (M155 (({ Clocks:=({ Segments:=v_6,Far:=v_7 }:TClocks),Pairs:=v_8,Runners:=v_9 }:TField)) ({ World:=v_3,Offsets:=l_4,Choices:=l_5 }:THistory)).bind fun r_20 =>
  bif !r_20 then some (l_4,l_5,v_11,v_12,v_13) else
  (M164 (({ Clocks:=({ Segments:=v_6,Far:=v_7 }:TClocks),Pairs:=v_8,Runners:=v_9 }:TField)) ({ World:=v_3,Offsets:=l_4,Choices:=l_5 }:THistory) v_10).bind fun r_23 =>
  bif r_23 == 0 then some (l_4,l_5,true,v_12,v_13) else
  bif v_12 == 0 then some (l_4,l_5,v_11,r_23,(maxG v_13 r_23)) else
  bif decide (r_23 < v_12) then some (l_4,l_5,v_11,r_23,(maxG v_13 r_23)) else
  some (l_4,l_5,v_11,v_12,(maxG v_13 r_23))
 else
 bif decide (at_2 < (((f_1.Clocks.Segments).length:Int))) then
  (idx f_1.Clocks.Far (w64 (at_2+1))).bind fun x_29 =>
  (idx x_29 0).bind fun x_30 =>
  (M165 f_1 at_2 v_3 v_6 v_7 v_8 v_9 v_10 rc_9060 (((Option.getD (idx (Option.getD (idx f_1.Clocks.Far 0) default) (w64 (at_2+1))) default)+1 - (w64 (0 - x_30)):Int).toNat+1) ((w64 (0 - x_30))) l_4 l_5 v_11 v_12 v_13).bind fun (l_44,l_45,v_46,v_47,v_48) =>
  (lenIs l_44 l_4).bind fun _ =>
  (lenIs l_45 l_5).bind fun _ =>
  some (l_44,l_45,v_46,v_47,v_48)
 else
 (idx f_1.Runners (w64 (at_2 - (((f_1.Clocks.Segments).length:Int))))).bind fun x_66 =>
 (idx x_66.Worlds v_3).bind fun x_67 =>
 (M167 f_1 at_2 v_3 v_6 v_7 v_8 v_9 v_10 x_67 rc_9060 (((((x_67).length:Int)) - 0:Int).toNat+1) 0 l_4 l_5 v_11 v_12 v_13).bind fun (l_81,l_82,v_83,v_84,v_85) =>
 (lenIs l_81 l_4).bind fun _ =>
 (lenIs l_82 l_5).bind fun _ =>
 some (l_81,l_82,v_83,v_84,v_85)
def M169:Nat→TField→Int→Int→(List Int)→(List TChoice)→(List TSegment)→(List (List Int))→(List TPair)→(List TRunner)→Int→Bool→Int→Int→Option (List Int × List TChoice × Bool × Int × Int)
 | 0=>fun _ _ _ _ _ _ _ _ _ _ _ _ _=>none
 | n+1=>M168 (M169 n)
def M170 (f_1:TField) (runner_2:Int):Nat→Int→Int→Int→Bool→Option (Int × Int × Bool)
  | 0,_,_,_,_=>none
  | n_32+1,v_28,v_29,v_30,v_31 =>
    bif decide (v_28 < (w64 ((((f_1.Pairs).length:Int))+1))) then
     Option.bind (
      (mkN 8 (((f_1.Clocks.Segments).length:Int))).bind fun n_43 =>
      (mkN 16 (((f_1.Runners).length:Int))).bind fun n_44 =>
      (M146 f_1 v_28).bind fun r_45 =>
      bif !r_45 then some (v_29,v_30,v_31) else
      (M169 1000 f_1 0 v_28 (List.replicate n_43 0) ((List.replicate n_44 ({ Outcome:=0,X:=0 }:TChoice))) f_1.Clocks.Segments f_1.Clocks.Far f_1.Pairs f_1.Runners runner_2 v_31 v_29 v_30).bind fun (l_48,l_49,b_50,b_51,b_52) =>
      (lenIs l_48 (List.replicate n_43 0)).bind fun _ =>
      (lenIs l_49 (List.replicate n_44 ({ Outcome:=0,X:=0 }:TChoice))).bind fun _ =>
      some (b_51,b_52,b_50)
     ) fun (v_39,v_40,v_41) =>
     (M170 f_1 runner_2 n_32) ((w64 (v_28+1))) v_39 v_40 v_41
    else
    some (v_29,v_30,v_31)
def M171 (f_1:TField) (runner_2:Int):Option (Bool) :=
 (M98).bind fun r_4 =>
 bif !r_4 then some false else
 Option.bind (
  (M105 f_1).bind fun r_9 =>
  bif !r_9 then some true else
  (M138 f_1).bind fun r_12 =>
  bif r_12 != 0 then some true else
  bif decide (runner_2 < 0) then some true else
  bif decide (runner_2≥(((f_1.Runners).length:Int))) then some true else
  (M143 f_1).bind fun r_17 =>
  some (decide (r_17 > 2000))
 ) fun v_7 =>
 bif v_7 then some true else
 (M93 f_1 runner_2).bind fun (r_20,r_21) =>
 bif r_21 != 0 then some false else
 (M170 f_1 runner_2 (((w64 ((((f_1.Pairs).length:Int))+1)) - 0:Int).toNat+1) 0 0 0 false).bind fun (v_33,v_34,v_35) =>
 bif r_20.Lo == v_33 then
  bif r_20.Hi == v_34 then some (r_20.Out == v_35) else
  some false
 else
 some false
def M172 (f_1:TField) (runner_2:Int):Option (Int) :=
 (M138 f_1).bind fun r_4 =>
 bif r_4 != 0 then some 240 else
 bif decide (runner_2 < 0) then some 250 else
 bif decide (runner_2≥(((f_1.Runners).length:Int))) then some 250 else
 some 0
def M173 (f_1:TField) (x_2:TOutcome) (runner_3:Int) (y_4:TOutcome) (rival_5:Int):Option (Bool) :=
 bif y_4.Out then some true else
 (idx f_1.Clocks.Far (w64 (x_2.Seg+1))).bind fun x_8 =>
 (idx x_8 (w64 (y_4.Seg+1))).bind fun x_9 =>
 bif decide ((w64 ((w64 (y_4.Hi+x_9)) - x_2.Lo)) > 0) then some true else
 bif (w64 ((w64 (y_4.Hi+x_9)) - x_2.Lo)) == 0 then
  (idx f_1.Runners rival_5).bind fun x_12 =>
  (idx f_1.Runners runner_3).bind fun x_13 =>
  (M161 x_12.Keys x_13.Keys).bind fun r_14 =>
  some (!r_14)
 else
 some false
def M174 (f_1:TField) (x_2:TOutcome) (runner_3:Int) (y_4:TOutcome) (rival_5:Int):Option (Bool) :=
 bif y_4.Out then some false else
 (idx f_1.Clocks.Far (w64 (y_4.Seg+1))).bind fun x_8 =>
 (idx x_8 (w64 (x_2.Seg+1))).bind fun x_9 =>
 bif decide ((w64 ((w64 (y_4.Lo - x_9)) - x_2.Hi)) < 0) then some true else
 bif (w64 ((w64 (y_4.Lo - x_9)) - x_2.Hi)) == 0 then
  (idx f_1.Runners rival_5).bind fun x_12 =>
  (idx f_1.Runners runner_3).bind fun x_13 =>
  (M161 x_12.Keys x_13.Keys).bind fun r_14 =>
  some r_14
 else
 some false
def M175 (f_1:TField) (x_3:TOutcome) (runner_4:Int) (rival_5:Int) (x_8:List TOutcome) (k_13:Unit→Option (Bool)):Nat→Int→Option (Bool)
  | 0,_=>none
  | n_11+1,i_10 =>
    bif decide (i_10 < (((x_8).length:Int))) then
     (idx x_8 i_10).bind fun x_15 =>
     (M173 f_1 x_3 runner_4 x_15 rival_5).bind fun r_16 =>
     bif r_16 then some true else
     (M175 f_1 x_3 runner_4 rival_5 x_8 k_13 n_11) ((w64 (i_10+1)))
    else
    k_13 ()
def M176 (_:Unit):Option (Bool) :=
 some false
def M177 (f_1:TField) (world_2:Int) (x_3:TOutcome) (runner_4:Int) (rival_5:Int):Option (Bool) :=
 (idx f_1.Runners rival_5).bind fun x_7 =>
 (idx x_7.Worlds world_2).bind fun x_8 =>
 M175 f_1 x_3 runner_4 rival_5 x_8 M176 (((((x_8).length:Int)) - 0:Int).toNat+1) 0
def M178 (f_1:TField) (x_3:TOutcome) (runner_4:Int) (rival_5:Int) (x_8:List TOutcome) (k_13:Unit→Option (Bool)):Nat→Int→Option (Bool)
  | 0,_=>none
  | n_11+1,i_10 =>
    bif decide (i_10 < (((x_8).length:Int))) then
     (idx x_8 i_10).bind fun x_15 =>
     (M174 f_1 x_3 runner_4 x_15 rival_5).bind fun r_16 =>
     bif r_16 then some true else
     (M178 f_1 x_3 runner_4 rival_5 x_8 k_13 n_11) ((w64 (i_10+1)))
    else
    k_13 ()
def M179 (_:Unit):Option (Bool) :=
 some false
def M180 (f_1:TField) (world_2:Int) (x_3:TOutcome) (runner_4:Int) (rival_5:Int):Option (Bool) :=
 (idx f_1.Runners rival_5).bind fun x_7 =>
 (idx x_7.Worlds world_2).bind fun x_8 =>
 M178 f_1 x_3 runner_4 rival_5 x_8 M179 (((((x_8).length:Int)) - 0:Int).toNat+1) 0
def M181 (f_1:TField) (world_2:Int) (x_3:TOutcome) (runner_4:Int):Nat→Int→Int→Int→Option (Int × Int)
  | 0,_,_,_=>none
  | n_13+1,best_10,worst_11,i_12 =>
    bif decide (i_12 < (((f_1.Runners).length:Int))) then
     Option.bind (
      bif i_12 == runner_4 then some (best_10,worst_11) else
      (M177 f_1 world_2 x_3 runner_4 i_12).bind fun r_23 =>
      bif !r_23 then
       (M180 f_1 world_2 x_3 runner_4 i_12).bind fun r_26 =>
       bif r_26 then some ((w64 (best_10+1)),(w64 (worst_11+1))) else
       some ((w64 (best_10+1)),worst_11)
      else
      (M180 f_1 world_2 x_3 runner_4 i_12).bind fun r_29 =>
      bif r_29 then some (best_10,(w64 (worst_11+1))) else
      some (best_10,worst_11)
     ) fun (best_19,worst_20) =>
     (M181 f_1 world_2 x_3 runner_4 n_13) best_19 worst_20 ((w64 (i_12+1)))
    else
    some (best_10,worst_11)
def M182 (f_1:TField) (world_2:Int) (x_3:TOutcome) (runner_4:Int):Option (Int × Int) :=
 (M181 f_1 world_2 x_3 runner_4 (((((f_1.Runners).length:Int)) - 0:Int).toNat+1) 1 1 0).bind fun (best_14,worst_15) =>
 some (best_14,worst_15)
def M183 (f_1:TField) (runner_2:Int) (w_13:Int) (x_25:List TOutcome):Nat→Int→Int→Int→Bool→Option (Int × Int × Bool)
  | 0,_,_,_,_=>none
  | n_34+1,i_30,v_31,v_32,v_33 =>
    bif decide (i_30 < (((x_25).length:Int))) then
     (M146 f_1 w_13).bind fun r_41 =>
     bif r_41 then
      Option.bind (
       (idx x_25 i_30).bind fun x_48 =>
       bif x_48.Out then some (v_31,v_32,true) else
       (idx x_25 i_30).bind fun x_50 =>
       (M182 f_1 w_13 x_50 runner_2).bind fun (r_51,r_52) =>
       bif v_31 == 0 then some (r_51,(maxG v_32 r_52),v_33) else
       bif decide (r_51 < v_31) then some (r_51,(maxG v_32 r_52),v_33) else
       some (v_31,(maxG v_32 r_52),v_33)
      ) fun (v_44,v_45,v_46) =>
      (M183 f_1 runner_2 w_13 x_25 n_34) ((w64 (i_30+1))) v_44 v_45 v_46
     else
     some (v_31,v_32,v_33)
    else
    some (v_31,v_32,v_33)
def M184 (f_1:TField) (runner_2:Int):Nat→Int→Int→Int→Bool→Option (Int × Int × Bool)
  | 0,_,_,_,_=>none
  | n_17+1,w_13,v_14,v_15,v_16 =>
    bif decide (w_13≤(((f_1.Pairs).length:Int))) then
     (idx f_1.Runners runner_2).bind fun x_24 =>
     (idx x_24.Worlds w_13).bind fun x_25 =>
     (M183 f_1 runner_2 w_13 x_25 (((((x_25).length:Int)) - 0:Int).toNat+1) 0 v_14 v_15 v_16).bind fun (v_35,v_36,v_37) =>
     (M184 f_1 runner_2 n_17) ((w64 (w_13+1))) v_35 v_36 v_37
    else
    some (v_14,v_15,v_16)
def M185 (f_1:TField) (runner_2:Int):Option (TRank × Int) :=
 (M172 f_1 runner_2).bind fun r_5 =>
 bif r_5 != 0 then some (({ Bib:=0,Kind:=0,Lo:=0,Hi:=0,Out:=false }:TRank),r_5) else
 (idx f_1.Runners runner_2).bind fun x_8 =>
 (M184 f_1 runner_2 (((((f_1.Pairs).length:Int))+1 - 0:Int).toNat+1) 0 0 0 false).bind fun (v_18,v_19,v_20) =>
 some (({ Bib:=x_8.Bib,Kind:=(bif (v_18 == 0) then 3 else (bif (v_18 == v_19) then (bif (!v_20) then 1 else 2) else 2)),Lo:=v_18,Hi:=v_19,Out:=v_20 }:TRank),0)
end Go.Stop
