import Derived.Test.YtheekineakjhdaaDoorVmDrawG
import Derived.Test.YtheekineakjhdaaDoorVmStl
set_option linter.unusedVariables false
set_option linter.unusedSimpArgs false
namespace Go.Proofs.YtheekineakjhdaaDoor
open Go Go.Vm
structure S_api_Op where
  Code : Int
  Data : List Int
  M : Int
  N : Int
abbrev C_api_Op (x : S_api_Op) : List V := [(eI .i64 x.Code), (.row none 1 (x.Data.map (eI .u8))), (eI .i64 x.M), (eI .i64 x.N)]
abbrev E_api_Op (x : S_api_Op) : V := .agg (C_api_Op x)
@[simp] theorem rns_C_api_Op {f : Nat → Nat} (l : List S_api_Op) : V.rns f (l.flatMap C_api_Op) = l.flatMap C_api_Op := rns_flat (fun _ => rfl) l
def law08_sane (N : Nat) : Option Bool := some true
def script_Number_J2 (N : Nat) (vn : Int) : Option (Int × Int) :=
  some (vn, 0)
def script_Number_L3 (N : Nat) (b : List Int) : Nat → Int → Int → Option Int
  | 0, _, _ => none
  | m + 1, vn_1, x26 =>
    if decide (x26 < (b.length : Int)) then
      (idx b x26).bind fun x29 =>
      (shl .u32 (IntKind.u32.wrap x29) (IntKind.i64.wrap (8 * x26))).bind fun x36 =>
      (script_Number_L3 N b m) (bits .or .u32 vn_1 x36) (IntKind.i64.wrap (x26 + 1))
    else
      some vn_1
def script_Number_J1 (N : Nat) (b : List Int) (x23 : Bool) : Option (Int × Int) :=
  if x23 then
    some (0, 82)
  else
    (script_Number_L3 N b N 0 0).bind fun p3 =>
    script_Number_J2 N p3
def script_Number (N : Nat) (b : List Int) : Option (Int × Int) :=
  if decide (4 < (b.length : Int)) then
    script_Number_J1 N b true
  else
    if decide (0 < (b.length : Int)) then
      (idx b (IntKind.i64.wrap ((b.length : Int) - 1))).bind fun x19 =>
      script_Number_J1 N b (x19 == 0)
    else
      script_Number_J1 N b false
def ref08_Number_J2 (N : Nat) (vn : Int) : Option (Int × Int) :=
  some (vn, 0)
def ref08_Number_L3 (N : Nat) (b : List Int) : Nat → Int → Int → Option Int
  | 0, _, _ => none
  | m + 1, vn_1, x25 =>
    if decide (x25 < (b.length : Int)) then
      (idx b x25).bind fun x31 =>
      (shl .u32 (IntKind.u32.wrap x31) (IntKind.i64.wrap (8 * x25))).bind fun x36 =>
      (ref08_Number_L3 N b m) (bits .or .u32 vn_1 x36) (IntKind.i64.wrap (x25 + 1))
    else
      some vn_1
def ref08_Number_J1 (N : Nat) (b : List Int) (x22 : Bool) : Option (Int × Int) :=
  if x22 then
    some (0, 82)
  else
    (ref08_Number_L3 N b N 0 0).bind fun p3 =>
    ref08_Number_J2 N p3
def ref08_Number (N : Nat) (b : List Int) : Option (Int × Int) :=
  if decide (4 < (b.length : Int)) then
    ref08_Number_J1 N b true
  else
    if decide (0 < (b.length : Int)) then
      (idx b (IntKind.i64.wrap ((b.length : Int) - 1))).bind fun x18 =>
      ref08_Number_J1 N b (x18 == 0)
    else
      ref08_Number_J1 N b false
def script_Item_J1 (N : Nat) (l0 : List Int) : Option (List Int) :=
  some l0
def script_Item_L2 (N : Nat) : Nat → Int → (List Int) → Option (List Int)
  | 0, _, _ => none
  | m + 1, vn_1, l0_1 =>
    if decide (0 < vn_1) then
      (app 1 l0_1 [IntKind.u8.wrap vn_1]).bind fun x12 =>
      (shr .u32 vn_1 8).bind fun x7 =>
      (script_Item_L2 N m) x7 x12
    else
      some l0_1
def script_Item (N : Nat) (vn : Int) : Option (List Int) :=
  (script_Item_L2 N N vn []).bind fun p2 =>
  script_Item_J1 N p2
def ref08_Item_J1 (N : Nat) (l0 : List Int) : Option (List Int) :=
  some l0
def ref08_Item_L2 (N : Nat) : Nat → Int → (List Int) → Option (List Int)
  | 0, _, _ => none
  | m + 1, vn_1, l0_1 =>
    if decide (0 < vn_1) then
      (app 1 l0_1 [IntKind.u8.wrap vn_1]).bind fun x12 =>
      (ref08_Item_L2 N m) (IntKind.u32.wrap (Int.tdiv vn_1 256)) x12
    else
      some l0_1
def ref08_Item (N : Nat) (vn : Int) : Option (List Int) :=
  (ref08_Item_L2 N N vn []).bind fun p2 =>
  ref08_Item_J1 N p2
def ref01_Same (N : Nat) (va : List Int) (b : List Int) : Option Bool :=
  some ((strOf va).toList == (strOf b).toList)
def law08_ScriptNumbers_J1 (N : Nat) (x4 : Bool) : Option Bool :=
  some x4
def law08_ScriptNumbers (N : Nat) (b : List Int) (vn : Int) : Option Bool :=
  (law08_sane N).bind fun x11 =>
  if !x11 then
    some false
  else
    (script_Number N b).bind fun x15 =>
    (ref08_Number N b).bind fun x20 =>
    (script_Item N vn).bind fun x25 =>
    (script_Number N x25).bind fun x26 =>
    if x15.1 == x20.1 then
      if x15.2 == x20.2 then
        (ref08_Item N vn).bind fun x41 =>
        (ref01_Same N x25 x41).bind fun x42 =>
        if x42 then
          if x26.1 == vn then
            law08_ScriptNumbers_J1 N (x26.2 == 0)
          else
            law08_ScriptNumbers_J1 N false
        else
          law08_ScriptNumbers_J1 N false
      else
        law08_ScriptNumbers_J1 N false
    else
      law08_ScriptNumbers_J1 N false
def keep_Ops_J1 (N : Nat) : Option Bool :=
  some true
def keep_Ops_L2 (N : Nat) (l : List S_api_Op) : Nat → Int → Option (LR (Unit) (Bool))
  | 0, _ => none
  | m + 1, x13 =>
    if decide (x13 < (l.length : Int)) then
      (idx l x13).bind fun x15 =>
      if decide (300 < (x15.Data.length : Int)) then
        some (.ret false)
      else
        (keep_Ops_L2 N l m) (IntKind.i64.wrap (x13 + 1))
    else
      some (.brk ())
def keep_Ops (N : Nat) (l : List S_api_Op) (vn : Int) : Option Bool :=
  if decide (vn < (l.length : Int)) then
    some false
  else
    (keep_Ops_L2 N l N 0).bind fun q => match q with
      | .ret v => some v
      | .brk p2 =>
        keep_Ops_J1 N
def script_known_J1 (N : Nat) (x2 : Bool) : Option Bool :=
  some x2
def script_known (N : Nat) (code : Int) : Option Bool :=
  if decide (1 ≤ code) then
    script_known_J1 N (decide (code ≤ 17))
  else
    script_known_J1 N false
def script_inRange_J1 (N : Nat) (x4 : Bool) : Option Bool :=
  some x4
def script_inRange (N : Nat) (vm : Int) (vn : Int) : Option Bool :=
  if decide (1 ≤ vn) then
    if decide (vn ≤ 15) then
      if decide (1 ≤ vm) then
        script_inRange_J1 N (decide (vm ≤ vn))
      else
        script_inRange_J1 N false
    else
      script_inRange_J1 N false
  else
    script_inRange_J1 N false
def script_check_J3 (N : Nat) (x37 : Bool) : Option Int :=
  if x37 then
    some 5
  else
    some 0
def script_check_J2 (N : Nat) (op_Code : Int) (op_Data : List Int) (op_M : Int) (op_N : Int) (x18 : Bool) : Option Int :=
  if x18 then
    some 6
  else
    if decide (255 < (op_Data.length : Int)) then
      some 4
    else
      if op_Code == 11 then
        (script_inRange N op_M op_N).bind fun x46 =>
        script_check_J3 N (!x46)
      else
        script_check_J3 N false
def script_check_J1 (N : Nat) (op_Code : Int) (op_Data : List Int) (op_M : Int) (op_N : Int) (x8 : Bool) : Option Int :=
  if x8 then
    some 6
  else
    if op_Code != 11 then
      if op_M != 0 then
        script_check_J2 N op_Code op_Data op_M op_N true
      else
        script_check_J2 N op_Code op_Data op_M op_N (op_N != 0)
    else
      script_check_J2 N op_Code op_Data op_M op_N false
def script_check (N : Nat) (op_Code : Int) (op_Data : List Int) (op_M : Int) (op_N : Int) : Option Int :=
  (script_known N op_Code).bind fun x6 =>
  if !x6 then
    some 80
  else
    if op_Code != 1 then
      script_check_J1 N op_Code op_Data op_M op_N (decide (0 < (op_Data.length : Int)))
    else
      script_check_J1 N op_Code op_Data op_M op_N false
def script_row_J1 (N : Nat) (l0 : List Int) : Option (List Int) :=
  some l0
def script_row_L2 (N : Nat) (parts : List (List Int)) : Nat → Int → (List Int) → Option (List Int)
  | 0, _, _ => none
  | m + 1, x8, l0_1 =>
    if decide (x8 < (parts.length : Int)) then
      (idx parts x8).bind fun x10 =>
      (app 1 l0_1 x10).bind fun x14 =>
      (script_row_L2 N parts m) (IntKind.i64.wrap (x8 + 1)) x14
    else
      some l0_1
def script_row (N : Nat) (parts : List (List Int)) : Option (List Int) :=
  (script_row_L2 N parts N 0 []).bind fun p2 =>
  script_row_J1 N p2
def script_push (N : Nat) (data : List Int) : Option (List Int) :=
  (script_row N [[1, IntKind.u8.wrap (data.length : Int)], data]).bind fun x9 =>
  some x9
def script_encode (N : Nat) (op_Code : Int) (op_Data : List Int) (op_M : Int) (op_N : Int) : Option (List Int) :=
  if op_Code == 1 then
    (script_push N op_Data).bind fun x9 =>
    some x9
  else
    if op_Code == 11 then
      some [11, IntKind.u8.wrap op_M, IntKind.u8.wrap op_N]
    else
      some [IntKind.u8.wrap op_Code]
def script_Assemble_J1 (N : Nat) (l0 : List Int) : Option ((List Int) × Int) :=
  if decide (520 < (l0.length : Int)) then
    some ([], 4)
  else
    some (l0, 0)
def script_Assemble_L2 (N : Nat) (l : List S_api_Op) : Nat → Int → (List Int) → Option (LR ((List Int)) ((List Int) × Int))
  | 0, _, _ => none
  | m + 1, x10, l0_1 =>
    if decide (x10 < (l.length : Int)) then
      (idx l x10).bind fun x12 =>
      (script_check N x12.Code x12.Data x12.M x12.N).bind fun x15 =>
      if x15 != 0 then
        some (.ret ([], x15))
      else
        (script_encode N x12.Code x12.Data x12.M x12.N).bind fun x21 =>
        (app 1 l0_1 x21).bind fun x22 =>
        (script_Assemble_L2 N l m) (IntKind.i64.wrap (x10 + 1)) x22
    else
      some (.brk l0_1)
def script_Assemble (N : Nat) (l : List S_api_Op) : Option ((List Int) × Int) :=
  (script_Assemble_L2 N l N 0 []).bind fun q => match q with
    | .ret v => some v
    | .brk p2 =>
      script_Assemble_J1 N p2
def ref08_fault_J3 (N : Nat) (x40 : Bool) : Option Int :=
  if x40 then
    some 5
  else
    some 0
def ref08_fault_J2 (N : Nat) (o_Code : Int) (o_Data : List Int) (o_M : Int) (o_N : Int) (x12 : Bool) : Option Int :=
  if x12 then
    some 6
  else
    if decide (255 < (o_Data.length : Int)) then
      some 4
    else
      if o_Code == 11 then
        if decide (o_N < 1) then
          ref08_fault_J3 N true
        else
          if decide (15 < o_N) then
            ref08_fault_J3 N true
          else
            if decide (o_M < 1) then
              ref08_fault_J3 N true
            else
              ref08_fault_J3 N (decide (o_N < o_M))
      else
        ref08_fault_J3 N false
def ref08_fault_J4 (N : Nat) (o_Code : Int) (o_Data : List Int) (o_M : Int) (o_N : Int) (x12_1 : Bool) : Option Int :=
  if x12_1 then
    ref08_fault_J2 N o_Code o_Data o_M o_N x12_1
  else
    if o_M != 0 then
      ref08_fault_J2 N o_Code o_Data o_M o_N (o_Code != 11)
    else
      if o_N != 0 then
        ref08_fault_J2 N o_Code o_Data o_M o_N (o_Code != 11)
      else
        ref08_fault_J2 N o_Code o_Data o_M o_N false
def ref08_fault_J1 (N : Nat) (o_Code : Int) (o_Data : List Int) (o_M : Int) (o_N : Int) (x3 : Bool) : Option Int :=
  if x3 then
    some 80
  else
    if decide (0 < (o_Data.length : Int)) then
      ref08_fault_J4 N o_Code o_Data o_M o_N (o_Code != 1)
    else
      ref08_fault_J4 N o_Code o_Data o_M o_N false
def ref08_fault (N : Nat) (o_Code : Int) (o_Data : List Int) (o_M : Int) (o_N : Int) : Option Int :=
  if decide (o_Code < 1) then
    ref08_fault_J1 N o_Code o_Data o_M o_N true
  else
    ref08_fault_J1 N o_Code o_Data o_M o_N (decide (17 < o_Code))
def ref01_joined (N : Nat) (va : List Int) (b : List Int) : Option (List Int) :=
  (mks 1 0 (IntKind.i64.wrap ((va.length : Int) + (b.length : Int)))).bind fun x11 =>
  (app 1 (x11.take 0) va).bind fun x14 =>
  (app 1 x14 b).bind fun x16 =>
  some x16
def ref01_Join_J1 (N : Nat) (l0 : List Int) : Option (List Int) :=
  some l0
def ref01_Join_L2 (N : Nat) (l : List (List Int)) : Nat → Int → (List Int) → Option (List Int)
  | 0, _, _ => none
  | m + 1, x8, l0_1 =>
    if decide (x8 < (l.length : Int)) then
      (idx l x8).bind fun x10 =>
      (ref01_joined N l0_1 x10).bind fun x14 =>
      (ref01_Join_L2 N l m) (IntKind.i64.wrap (x8 + 1)) x14
    else
      some l0_1
def ref01_Join (N : Nat) (l : List (List Int)) : Option (List Int) :=
  (ref01_Join_L2 N l N 0 []).bind fun p2 =>
  ref01_Join_J1 N p2
def ref08_encode (N : Nat) (o_Code : Int) (o_Data : List Int) (o_M : Int) (o_N : Int) : Option (List Int) :=
  if o_Code == 1 then
    (ref01_Join N [[1, IntKind.u8.wrap (o_Data.length : Int)], o_Data]).bind fun x15 =>
    some x15
  else
    if o_Code == 11 then
      some [11, IntKind.u8.wrap o_M, IntKind.u8.wrap o_N]
    else
      some [IntKind.u8.wrap o_Code]
def ref08_Assemble_J2 (N : Nat) (l0 : List Int) : Option ((List Int) × Int) :=
  some (l0, 0)
def ref08_Assemble_L3 (N : Nat) (l : List S_api_Op) : Nat → Int → (List Int) → Option (LR ((List Int)) ((List Int) × Int))
  | 0, _, _ => none
  | m + 1, x24, l0_1 =>
    if decide (x24 < (l.length : Int)) then
      (idx l x24).bind fun x26 =>
      (ref08_encode N x26.Code x26.Data x26.M x26.N).bind fun x30 =>
      (app 1 l0_1 x30).bind fun x31 =>
      if decide (520 < (x31.length : Int)) then
        some (.ret ([], 4))
      else
        (ref08_Assemble_L3 N l m) (IntKind.i64.wrap (x24 + 1)) x31
    else
      some (.brk l0_1)
def ref08_Assemble_J1 (N : Nat) (l : List S_api_Op) : Option ((List Int) × Int) :=
  (ref08_Assemble_L3 N l N 0 []).bind fun q => match q with
    | .ret v => some v
    | .brk p3 =>
      ref08_Assemble_J2 N p3
def ref08_Assemble_L4 (N : Nat) (l : List S_api_Op) : Nat → Int → Option (LR (Unit) ((List Int) × Int))
  | 0, _ => none
  | m + 1, x12 =>
    if decide (x12 < (l.length : Int)) then
      (idx l x12).bind fun x14 =>
      (ref08_fault N x14.Code x14.Data x14.M x14.N).bind fun x17 =>
      if x17 != 0 then
        some (.ret ([], x17))
      else
        (ref08_Assemble_L4 N l m) (IntKind.i64.wrap (x12 + 1))
    else
      some (.brk ())
def ref08_Assemble (N : Nat) (l : List S_api_Op) : Option ((List Int) × Int) :=
  (ref08_Assemble_L4 N l N 0).bind fun q => match q with
    | .ret v => some v
    | .brk p4 =>
      ref08_Assemble_J1 N l
def law08_ScriptAssembles_J1 (N : Nat) (x2 : Bool) : Option Bool :=
  some x2
def law08_ScriptAssembles (N : Nat) (l : List S_api_Op) : Option Bool :=
  (law08_sane N).bind fun x7 =>
  if !x7 then
    some false
  else
    (keep_Ops N l 40).bind fun x10 =>
    if !x10 then
      some true
    else
      (script_Assemble N l).bind fun x14 =>
      (ref08_Assemble N l).bind fun x19 =>
      if x14.2 == x19.2 then
        (ref01_Same N x14.1 x19.1).bind fun x28 =>
        law08_ScriptAssembles_J1 N x28
      else
        law08_ScriptAssembles_J1 N false
def script_next_J1 (N : Nat) (x8 : Int) (b_1 : List Int) (c1 : Int) (c1_1 : Int) (l2 : List Int) : Option (Int × (List Int) × Int × Int × (List Int) × Int) :=
  some (IntKind.i64.wrap x8, l2, c1, c1_1, b_1, 0)
def script_next_J2 (N : Nat) (x8 : Int) (x18 : List Int) (x35 : Bool) : Option (Int × (List Int) × Int × Int × (List Int) × Int) :=
  if x35 then
    some (0, [], 0, 0, [], 1)
  else
    (idx x18 0).bind fun x38 =>
    (sub x18 1 (IntKind.i64.wrap (1 + (IntKind.i64.wrap x38)))).bind fun x44 =>
    (script_row N [x44]).bind fun x46 =>
    (sub x18 (IntKind.i64.wrap (1 + (IntKind.i64.wrap x38))) (x18.length : Int)).bind fun x49 =>
    script_next_J1 N x8 x49 0 0 x46
def script_next_J3 (N : Nat) (x8 : Int) (b_2 : List Int) (c1_2 : Int) (c1_3 : Int) : Option (Int × (List Int) × Int × Int × (List Int) × Int) :=
  (script_inRange N c1_2 c1_3).bind fun x73 =>
  if !x73 then
    some (0, [], 0, 0, [], 5)
  else
    script_next_J1 N x8 b_2 c1_2 c1_3 []
def script_next (N : Nat) (b : List Int) : Option (Int × (List Int) × Int × Int × (List Int) × Int) :=
  (idx b 0).bind fun x8 =>
  (script_known N (IntKind.i64.wrap x8)).bind fun x14 =>
  if !x14 then
    some (0, [], 0, 0, [], 80)
  else
    (sub b 1 (b.length : Int)).bind fun x18 =>
    if (IntKind.i64.wrap x8) == 1 then
      if (x18.length : Int) == 0 then
        script_next_J2 N x8 x18 true
      else
        (idx x18 0).bind fun x31 =>
        script_next_J2 N x8 x18 (decide ((IntKind.i64.wrap ((x18.length : Int) - 1)) < (IntKind.i64.wrap x31)))
    else
      if (IntKind.i64.wrap x8) == 11 then
        if decide ((x18.length : Int) < 2) then
          some (0, [], 0, 0, [], 1)
        else
          (idx x18 0).bind fun x58 =>
          (idx x18 1).bind fun x62 =>
          (sub x18 2 (x18.length : Int)).bind fun x66 =>
          script_next_J3 N x8 x66 (IntKind.i64.wrap x58) (IntKind.i64.wrap x62)
      else
        script_next_J1 N x8 x18 0 0 []
def script_Parse_J1 (N : Nat) (l0 : List S_api_Op) : Option ((List S_api_Op) × Int) :=
  some (l0, 0)
def script_Parse_L2 (N : Nat) : Nat → (List Int) → (List S_api_Op) → Option (LR ((List S_api_Op)) ((List S_api_Op) × Int))
  | 0, _, _ => none
  | m + 1, b_1, l0_1 =>
    if decide (0 < (b_1.length : Int)) then
      (script_next N b_1).bind fun x16 =>
      if x16.2.2.2.2.2 != 0 then
        some (.ret ([], x16.2.2.2.2.2))
      else
        (app 48 l0_1 [(S_api_Op.mk x16.1 x16.2.1 x16.2.2.1 x16.2.2.2.1)]).bind fun x26 =>
        (script_Parse_L2 N m) x16.2.2.2.2.1 x26
    else
      some (.brk l0_1)
def script_Parse (N : Nat) (b : List Int) : Option ((List S_api_Op) × Int) :=
  if decide (520 < (b.length : Int)) then
    some ([], 4)
  else
    (script_Parse_L2 N N b []).bind fun q => match q with
      | .ret v => some v
      | .brk p2 =>
        script_Parse_J1 N p2
def ref08_SameOps_J1 (N : Nat) : Option Bool :=
  some true
def ref08_SameOps_J3 (N : Nat) (va : List S_api_Op) (b : List S_api_Op) (x13 : Int) (rec : Int → Option (LR (Unit) (Bool))) (x66 : Bool) : Option (LR (Unit) (Bool)) :=
  if x66 then
    some (.ret false)
  else
    rec (IntKind.i64.wrap (x13 + 1))
def ref08_SameOps_L2 (N : Nat) (va : List S_api_Op) (b : List S_api_Op) : Nat → Int → Option (LR (Unit) (Bool))
  | 0, _ => none
  | m + 1, x13 =>
    if decide (x13 < (va.length : Int)) then
      (idx va x13).bind fun x18 =>
      (idx b x13).bind fun x23 =>
      if x18.Code != x23.Code then
        ref08_SameOps_J3 N va b x13 (ref08_SameOps_L2 N va b m) true
      else
        if x18.M != x23.M then
          ref08_SameOps_J3 N va b x13 (ref08_SameOps_L2 N va b m) true
        else
          if x18.N != x23.N then
            ref08_SameOps_J3 N va b x13 (ref08_SameOps_L2 N va b m) true
          else
            (ref01_Same N x18.Data x23.Data).bind fun x64 =>
            ref08_SameOps_J3 N va b x13 (ref08_SameOps_L2 N va b m) (!x64)
    else
      some (.brk ())
def ref08_SameOps (N : Nat) (va : List S_api_Op) (b : List S_api_Op) : Option Bool :=
  if (va.length : Int) != (b.length : Int) then
    some false
  else
    (ref08_SameOps_L2 N va b N 0).bind fun q => match q with
      | .ret v => some v
      | .brk p2 =>
        ref08_SameOps_J1 N
def law08_ScriptBack_J3 (N : Nat) (x4 : Bool) : Option Bool :=
  some x4
def law08_ScriptBack_J2 (N : Nat) (b : List Int) : Option Bool :=
  (script_Parse N b).bind fun x45 =>
  if x45.2 != 0 then
    some ((x45.1.length : Int) == 0)
  else
    (script_Assemble N x45.1).bind fun x55 =>
    if x55.2 == 0 then
      (ref01_Same N x55.1 b).bind fun x63 =>
      law08_ScriptBack_J3 N x63
    else
      law08_ScriptBack_J3 N false
def law08_ScriptBack_J4 (N : Nat) (b : List Int) (x42 : Bool) : Option Bool :=
  if x42 then
    some false
  else
    law08_ScriptBack_J2 N b
def law08_ScriptBack_J1 (N : Nat) (l : List S_api_Op) (b : List Int) (x22 : Bool) : Option Bool :=
  if x22 then
    some true
  else
    (script_Assemble N l).bind fun x25 =>
    if x25.2 == 0 then
      (script_Parse N x25.1).bind fun x32 =>
      if x32.2 != 0 then
        law08_ScriptBack_J4 N b true
      else
        (ref08_SameOps N l x32.1).bind fun x40 =>
        law08_ScriptBack_J4 N b (!x40)
    else
      law08_ScriptBack_J2 N b
def law08_ScriptBack (N : Nat) (l : List S_api_Op) (b : List Int) : Option Bool :=
  (law08_sane N).bind fun x13 =>
  if !x13 then
    some false
  else
    (keep_Ops N l 40).bind fun x16 =>
    if !x16 then
      law08_ScriptBack_J1 N l b true
    else
      law08_ScriptBack_J1 N l b (decide (700 < (b.length : Int)))
def wide_Bytes_J1 (N : Nat) (l1 : List Int) : Option (List Int) :=
  (arr 32 l1).bind fun q =>
  some l1
def wide_Bytes_L2 (N : Nat) (va : List Int) : Nat → Int → (List Int) → Option (List Int)
  | 0, _, _ => none
  | m + 1, x5, l2 =>
    if decide (x5 < 32) then
      (aix 4 va (IntKind.i64.wrap (3 - (IntKind.i64.wrap (Int.tdiv x5 8))))).bind fun x12 =>
      (shr .u64 x12 (IntKind.i64.wrap (56 - (IntKind.i64.wrap ((Int.tmod x5 8) * 8))))).bind fun x18 =>
      (aix 32 l2 x5).bind fun x20 =>
      (wide_Bytes_L2 N va m) (IntKind.i64.wrap (x5 + 1)) (l2.set (Int.toNat x5) (IntKind.u8.wrap x18))
    else
      some l2
def wide_Bytes (N : Nat) (va : List Int) : Option (List Int) :=
  (wide_Bytes_L2 N va N 0 (List.replicate 32 0)).bind fun p2 =>
  wide_Bytes_J1 N p2
def script_Multi_J1 (N : Nat) (vm : Int) (keys : List (List Int)) (l0 : List S_api_Op) : Option ((List Int) × Int) :=
  (app 48 l0 [(S_api_Op.mk 11 [] vm (keys.length : Int))]).bind fun x30 =>
  (script_Assemble N x30).bind fun x31 =>
  some (x31.1, x31.2)
def script_Multi_L2 (N : Nat) (vm : Int) (keys : List (List Int)) : Nat → Int → (List S_api_Op) → Option (List S_api_Op)
  | 0, _, _ => none
  | m + 1, x12, l0_1 =>
    if decide (x12 < (keys.length : Int)) then
      (idx keys x12).bind fun x14 =>
      (arr 4 x14).bind fun q =>
      (wide_Bytes N x14).bind fun x17 =>
      (arr 32 x17).bind fun q_1 =>
      (app 48 l0_1 [(S_api_Op.mk 1 x17 0 0)]).bind fun x22 =>
      (script_Multi_L2 N vm keys m) (IntKind.i64.wrap (x12 + 1)) x22
    else
      some l0_1
def script_Multi (N : Nat) (vm : Int) (keys : List (List Int)) : Option ((List Int) × Int) :=
  (script_Multi_L2 N vm keys N 0 []).bind fun p2 =>
  script_Multi_J1 N vm keys p2
def ref02_Bytes_J1 (N : Nat) (l1 : List Int) : Option (List Int) :=
  (arr 32 l1).bind fun q =>
  some l1
def ref02_Bytes_L2 (N : Nat) (va : List Int) : Nat → Int → (List Int) → Option (List Int)
  | 0, _, _ => none
  | m + 1, x6, l2 =>
    if decide (x6 < 32) then
      (aix 4 va (IntKind.i64.wrap (Int.tdiv (IntKind.i64.wrap (31 - x6)) 8))).bind fun x14 =>
      (shr .u64 x14 (IntKind.i64.wrap (8 * (Int.tmod (IntKind.i64.wrap (31 - x6)) 8)))).bind fun x19 =>
      (aix 32 l2 x6).bind fun x21 =>
      (ref02_Bytes_L2 N va m) (IntKind.i64.wrap (x6 + 1)) (l2.set (Int.toNat x6) (IntKind.u8.wrap x19))
    else
      some l2
def ref02_Bytes (N : Nat) (va : List Int) : Option (List Int) :=
  (ref02_Bytes_L2 N va N 0 (List.replicate 32 0)).bind fun p2 =>
  ref02_Bytes_J1 N p2
def ref08_key (N : Nat) (p : List Int) : Option (List Int) :=
  (arr 4 p).bind fun q =>
  (ref02_Bytes N p).bind fun x5 =>
  (arr 32 x5).bind fun q_1 =>
  some x5
def ref08_Multi_J1 (N : Nat) (vm : Int) (keys : List (List Int)) (l0 : List S_api_Op) : Option ((List Int) × Int) :=
  (app 48 l0 [(S_api_Op.mk 11 [] vm (keys.length : Int))]).bind fun x28 =>
  (ref08_Assemble N x28).bind fun x29 =>
  some (x29.1, x29.2)
def ref08_Multi_L2 (N : Nat) (vm : Int) (keys : List (List Int)) : Nat → Int → (List S_api_Op) → Option (List S_api_Op)
  | 0, _, _ => none
  | m + 1, x11, l0_1 =>
    if decide (x11 < (keys.length : Int)) then
      (idx keys x11).bind fun x13 =>
      (arr 4 x13).bind fun q =>
      (ref08_key N x13).bind fun x17 =>
      (app 48 l0_1 [(S_api_Op.mk 1 x17 0 0)]).bind fun x20 =>
      (ref08_Multi_L2 N vm keys m) (IntKind.i64.wrap (x11 + 1)) x20
    else
      some l0_1
def ref08_Multi (N : Nat) (vm : Int) (keys : List (List Int)) : Option ((List Int) × Int) :=
  (ref08_Multi_L2 N vm keys N 0 []).bind fun p2 =>
  ref08_Multi_J1 N vm keys p2
def script_Single (N : Nat) (p : List Int) : Option (List Int) :=
  (arr 4 p).bind fun q =>
  (wide_Bytes N p).bind fun x5 =>
  (arr 32 x5).bind fun q_1 =>
  (script_push N x5).bind fun x7 =>
  (script_row N [x7, [10]]).bind fun x10 =>
  some x10
def ref08_push (N : Nat) (b : List Int) : Option (List Int) :=
  (ref08_encode N 1 b 0 0).bind fun x5 =>
  some x5
def ref08_Single (N : Nat) (p : List Int) : Option (List Int) :=
  (arr 4 p).bind fun q =>
  (ref08_key N p).bind fun x4 =>
  (ref08_push N x4).bind fun x5 =>
  (ref01_Join N [x5, [10]]).bind fun x8 =>
  some x8
def script_After (N : Nat) (height : Int) (rest : List Int) : Option (List Int) :=
  (script_Item N height).bind fun x6 =>
  (script_push N x6).bind fun x7 =>
  (script_row N [x7, [12, 3], rest]).bind fun x11 =>
  some x11
def ref08_After (N : Nat) (height : Int) (rest : List Int) : Option (List Int) :=
  (ref08_Item N height).bind fun x6 =>
  (ref08_push N x6).bind fun x7 =>
  (ref01_Join N [x7, [12, 3], rest]).bind fun x11 =>
  some x11
def script_Older (N : Nat) (age : Int) (rest : List Int) : Option (List Int) :=
  (script_Item N age).bind fun x6 =>
  (script_push N x6).bind fun x7 =>
  (script_row N [x7, [13, 3], rest]).bind fun x11 =>
  some x11
def ref08_Older (N : Nat) (age : Int) (rest : List Int) : Option (List Int) :=
  (ref08_Item N age).bind fun x6 =>
  (ref08_push N x6).bind fun x7 =>
  (ref01_Join N [x7, [13, 3], rest]).bind fun x11 =>
  some x11
def script_Hashed (N : Nat) (vh : List Int) (rest : List Int) : Option (List Int) :=
  (arr 32 vh).bind fun q =>
  (script_push N vh).bind fun x7 =>
  (script_row N [[8], x7, [5, 7], rest]).bind fun x11 =>
  some x11
def ref08_Hashed (N : Nat) (vh : List Int) (rest : List Int) : Option (List Int) :=
  (arr 32 vh).bind fun q =>
  (ref08_push N vh).bind fun x7 =>
  (ref01_Join N [[8], x7, [5, 7], rest]).bind fun x11 =>
  some x11
def script_Either (N : Nat) (va : List Int) (b : List Int) : Option (List Int) :=
  (script_row N [[14], va, [15], b, [16]]).bind fun x11 =>
  some x11
def ref08_Either (N : Nat) (va : List Int) (b : List Int) : Option (List Int) :=
  (ref01_Join N [[14], va, [15], b, [16]]).bind fun x11 =>
  some x11
def law08_ScriptStandard_J3 (N : Nat) (x12 : Bool) : Option Bool :=
  some x12
def law08_ScriptStandard_J2 (N : Nat) (vh : List Int) (vn : Int) (va : List Int) (b : List Int) (x36 : (List Int) × Int) (x42 : (List Int) × Int) (l3 : List Int) : Option Bool :=
  if x36.2 == x42.2 then
    (ref01_Same N x36.1 x42.1).bind fun x57 =>
    if x57 then
      (arr 4 l3).bind fun q =>
      (script_Single N l3).bind fun x61 =>
      (ref08_Single N l3).bind fun x63 =>
      (ref01_Same N x61 x63).bind fun x64 =>
      if x64 then
        (script_After N vn va).bind fun x69 =>
        (ref08_After N vn va).bind fun x72 =>
        (ref01_Same N x69 x72).bind fun x73 =>
        if x73 then
          (script_Older N vn va).bind fun x78 =>
          (ref08_Older N vn va).bind fun x81 =>
          (ref01_Same N x78 x81).bind fun x82 =>
          if x82 then
            (arr 32 vh).bind fun q_1 =>
            (script_Hashed N vh va).bind fun x87 =>
            (ref08_Hashed N vh va).bind fun x90 =>
            (ref01_Same N x87 x90).bind fun x91 =>
            if x91 then
              (script_Either N va b).bind fun x96 =>
              (ref08_Either N va b).bind fun x99 =>
              (ref01_Same N x96 x99).bind fun x100 =>
              law08_ScriptStandard_J3 N x100
            else
              law08_ScriptStandard_J3 N false
          else
            law08_ScriptStandard_J3 N false
        else
          law08_ScriptStandard_J3 N false
      else
        law08_ScriptStandard_J3 N false
    else
      law08_ScriptStandard_J3 N false
  else
    law08_ScriptStandard_J3 N false
def law08_ScriptStandard_J1 (N : Nat) (keys : List (List Int)) (vm : Int) (vh : List Int) (vn : Int) (va : List Int) (b : List Int) (x32 : Bool) : Option Bool :=
  if x32 then
    some true
  else
    (script_Multi N vm keys).bind fun x36 =>
    (ref08_Multi N vm keys).bind fun x42 =>
    if decide (0 < (keys.length : Int)) then
      (idx keys 0).bind fun x49 =>
      (arr 4 x49).bind fun q_2 =>
      law08_ScriptStandard_J2 N vh vn va b x36 x42 x49
    else
      law08_ScriptStandard_J2 N vh vn va b x36 x42 (List.replicate 4 0)
def law08_ScriptStandard (N : Nat) (keys : List (List Int)) (vm : Int) (vh : List Int) (vn : Int) (va : List Int) (b : List Int) : Option Bool :=
  (law08_sane N).bind fun x18 =>
  if !x18 then
    some false
  else
    if decide (18 < (keys.length : Int)) then
      law08_ScriptStandard_J1 N keys vm vh vn va b true
    else
      if decide (600 < (va.length : Int)) then
        law08_ScriptStandard_J1 N keys vm vh vn va b true
      else
        law08_ScriptStandard_J1 N keys vm vh vn va b (decide (600 < (b.length : Int)))
end Go.Proofs.YtheekineakjhdaaDoor
