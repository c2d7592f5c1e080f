import Derived.Test.YtbjiaiobpbpjoaaVmDrawG
import Derived.Test.YtbjiaiobpbpjoaaVmAis
set_option linter.unusedVariables false
set_option linter.unusedSimpArgs false
namespace Go.Proofs.Ytbjiaiobpbpjoaa
open Go Go.Vm
structure S_api_OutPoint where
  Tx : List Int
  Index : Int
abbrev C_api_OutPoint (x : S_api_OutPoint) : List V := (ar32 (eI .u8) x.Tx [(eI .u32 x.Index)])
abbrev E_api_OutPoint (x : S_api_OutPoint) : V := .agg (C_api_OutPoint x)
@[simp] theorem rns_C_api_OutPoint {f : Nat → Nat} (l : List S_api_OutPoint) : V.rns f (l.flatMap C_api_OutPoint) = l.flatMap C_api_OutPoint := rns_flat (fun _ => rfl) l
@[simp] theorem rns_K_api_OutPoint {f : Nat → Nat} (x : S_api_OutPoint) : V.rns f (C_api_OutPoint x) = C_api_OutPoint x := rfl
structure S_api_Input where
  Prev : S_api_OutPoint
  Sequence : Int
  Witness : List (List Int)
abbrev C_api_Input (x : S_api_Input) : List V := (ar32 (eI .u8) x.Prev.Tx [(eI .u32 x.Prev.Index), (eI .u32 x.Sequence), (.row none 1 (x.Witness.map (eL 1 (eI .u8))))])
abbrev E_api_Input (x : S_api_Input) : V := .agg (C_api_Input x)
@[simp] theorem rns_C_api_Input {f : Nat → Nat} (l : List S_api_Input) : V.rns f (l.flatMap C_api_Input) = l.flatMap C_api_Input := rns_flat (fun _ => rfl) l
@[simp] theorem rns_K_api_Input {f : Nat → Nat} (x : S_api_Input) : V.rns f (C_api_Input x) = C_api_Input x := rfl
structure S_api_Output where
  Value : Int
  Script : List Int
abbrev C_api_Output (x : S_api_Output) : List V := [(eI .i64 x.Value), (.row none 1 (x.Script.map (eI .u8)))]
abbrev E_api_Output (x : S_api_Output) : V := .agg (C_api_Output x)
@[simp] theorem rns_C_api_Output {f : Nat → Nat} (l : List S_api_Output) : V.rns f (l.flatMap C_api_Output) = l.flatMap C_api_Output := rns_flat (fun _ => rfl) l
@[simp] theorem rns_K_api_Output {f : Nat → Nat} (x : S_api_Output) : V.rns f (C_api_Output x) = C_api_Output x := rfl
abbrev M_52 (e : S_api_OutPoint × Bool) : List V := (ar32 (eI .u8) e.1.Tx [(eI .u32 e.1.Index), (eB e.2)])
def Q_52 (a b : S_api_OutPoint) : Bool := (aeq32 a.Tx b.Tx ((a.Index == b.Index) && true))
@[simp] theorem rns_M_52 {f : Nat → Nat} (l : List (S_api_OutPoint × Bool)) : V.rns f (l.flatMap M_52) = l.flatMap M_52 := rns_flat (fun _ => rfl) l
structure S_api_Coin where
  Out : S_api_OutPoint
  Output : S_api_Output
  Height : Int
  Coinbase : Bool
abbrev C_api_Coin (x : S_api_Coin) : List V := (ar32 (eI .u8) x.Out.Tx [(eI .u32 x.Out.Index), (eI .i64 x.Output.Value), (.row none 1 (x.Output.Script.map (eI .u8))), (eI .i64 x.Height), (eB x.Coinbase)])
abbrev E_api_Coin (x : S_api_Coin) : V := .agg (C_api_Coin x)
@[simp] theorem rns_C_api_Coin {f : Nat → Nat} (l : List S_api_Coin) : V.rns f (l.flatMap C_api_Coin) = l.flatMap C_api_Coin := rns_flat (fun _ => rfl) l
@[simp] theorem rns_K_api_Coin {f : Nat → Nat} (x : S_api_Coin) : V.rns f (C_api_Coin x) = C_api_Coin x := rfl
def codec_lowest_J1 (N : Nat) (l0 : List Int) : Option (List Int) :=
  some l0
def codec_lowest_L2 (N : Nat) (vn : Int) (width : Int) : Nat → Int → (List Int) → Option (List Int)
  | 0, _, _ => none
  | m + 1, x10, l0_1 =>
    if decide (x10 < width) then
      (shr .u64 vn (IntKind.i64.wrap (8 * x10))).bind fun x18 =>
      (idx l0_1 x10).bind fun x20 =>
      (codec_lowest_L2 N vn width m) (IntKind.i64.wrap (x10 + 1)) (l0_1.set (Int.toNat x10) (IntKind.u8.wrap x18))
    else
      some l0_1
def codec_lowest (N : Nat) (vn : Int) (width : Int) : Option (List Int) :=
  (mks 1 0 width).bind fun x8 =>
  (codec_lowest_L2 N vn width N 0 x8).bind fun p2 =>
  codec_lowest_J1 N p2
def codec_extend (N : Nat) (b : List Int) (vs : List Int) : Option (List Int) :=
  (mks 1 0 (IntKind.i64.wrap ((b.length : Int) + (vs.length : Int)))).bind fun x11 =>
  (app 1 (x11.take 0) b).bind fun x14 =>
  (app 1 x14 vs).bind fun x17 =>
  some x17
def codec_AppendU32 (N : Nat) (b : List Int) (vn : Int) : Option (List Int) :=
  (codec_lowest N (IntKind.u64.wrap vn) 4).bind fun x8 =>
  (codec_extend N b x8).bind fun x9 =>
  some x9
def codec_AppendU16 (N : Nat) (b : List Int) (vn : Int) : Option (List Int) :=
  (codec_lowest N (IntKind.u64.wrap vn) 2).bind fun x8 =>
  (codec_extend N b x8).bind fun x9 =>
  some x9
def codec_AppendU64 (N : Nat) (b : List Int) (vn : Int) : Option (List Int) :=
  (codec_lowest N vn 8).bind fun x7 =>
  (codec_extend N b x7).bind fun x8 =>
  some x8
def codec_AppendSize (N : Nat) (b : List Int) (vn : Int) : Option (List Int) :=
  if decide (vn < 253) then
    (codec_extend N b [IntKind.u8.wrap vn]).bind fun x12 =>
    some x12
  else
    if decide (vn < 65536) then
      (codec_extend N b [253]).bind fun x18 =>
      (codec_AppendU16 N x18 (IntKind.u16.wrap vn)).bind fun x21 =>
      some x21
    else
      if decide (vn < 4294967296) then
        (codec_extend N b [254]).bind fun x27 =>
        (codec_AppendU32 N x27 (IntKind.u32.wrap vn)).bind fun x30 =>
        some x30
      else
        (codec_extend N b [255]).bind fun x33 =>
        (codec_AppendU64 N x33 vn).bind fun x35 =>
        some x35
def codec_AppendHash (N : Nat) (b : List Int) (vh : List Int) : Option (List Int) :=
  (arr 32 vh).bind fun q =>
  (codec_extend N b vh).bind fun x7 =>
  some x7
def tx_Point (N : Nat) (o_Tx : List Int) (o_Index : Int) : Option (List Int) :=
  (arr 32 o_Tx).bind fun q =>
  (codec_AppendHash N [] o_Tx).bind fun x5 =>
  (codec_AppendU32 N x5 o_Index).bind fun x8 =>
  some x8
def codec_AppendBytes (N : Nat) (b : List Int) (vs : List Int) : Option (List Int) :=
  (codec_AppendSize N b (IntKind.u64.wrap (vs.length : Int))).bind fun x9 =>
  (codec_extend N x9 vs).bind fun x11 =>
  some x11
def tx_encode_J3 (N : Nat) (l0 : List Int) : Option (List Int) :=
  some l0
def tx_encode_J5 (N : Nat) (t_Inputs : List S_api_Input) (x79 : Int) (rec : Int → (List Int) → Option (List Int)) (l0_2 : List Int) : Option (List Int) :=
  rec (IntKind.i64.wrap (x79 + 1)) l0_2
def tx_encode_L6 (N : Nat) (t_Inputs : List S_api_Input) (x79 : Int) (x81 : S_api_Input) : Nat → Int → (List Int) → Option (List Int)
  | 0, _, _ => none
  | m + 1, x93, l0_3 =>
    if decide (x93 < (x81.Witness.length : Int)) then
      (idx x81.Witness x93).bind fun x95 =>
      (codec_AppendBytes N [] x95).bind fun x99 =>
      (app 1 l0_3 x99).bind fun x100 =>
      (tx_encode_L6 N t_Inputs x79 x81 m) (IntKind.i64.wrap (x93 + 1)) x100
    else
      some l0_3
def tx_encode_L4 (N : Nat) (t_Inputs : List S_api_Input) : Nat → Int → (List Int) → Option (List Int)
  | 0, _, _ => none
  | m + 1, x79, l0_1 =>
    if decide (x79 < (t_Inputs.length : Int)) then
      (idx t_Inputs x79).bind fun x81 =>
      (codec_AppendSize N [] (IntKind.u64.wrap (x81.Witness.length : Int))).bind fun x88 =>
      (app 1 l0_1 x88).bind fun x89 =>
      (tx_encode_L6 N t_Inputs x79 x81 N 0 x89).bind fun p6 =>
      tx_encode_J5 N t_Inputs x79 (tx_encode_L4 N t_Inputs m) p6
    else
      some l0_1
def tx_encode_J2 (N : Nat) (t_Version : Int) (t_Inputs : List S_api_Input) (t_Outputs : List S_api_Output) (t_Lock : Int) (witness : Bool) (l1_1 : List Int) : Option (List Int) :=
  (codec_AppendU32 N [] t_Lock).bind fun x71 =>
  (app 1 l1_1 x71).bind fun x72 =>
  if !witness then
    some x72
  else
    (tx_encode_L4 N t_Inputs N 0 x72).bind fun p4 =>
    tx_encode_J3 N p4
def tx_encode_L7 (N : Nat) (t_Version : Int) (t_Inputs : List S_api_Input) (t_Outputs : List S_api_Output) (t_Lock : Int) (witness : Bool) : Nat → Int → (List Int) → Option (List Int)
  | 0, _, _ => none
  | m + 1, x52, l1_2 =>
    if decide (x52 < (t_Outputs.length : Int)) then
      (idx t_Outputs x52).bind fun x54 =>
      (codec_AppendU64 N [] (IntKind.u64.wrap x54.Value)).bind fun x60 =>
      (app 1 l1_2 x60).bind fun x61 =>
      (codec_AppendBytes N [] x54.Script).bind fun x65 =>
      (app 1 x61 x65).bind fun x66 =>
      (tx_encode_L7 N t_Version t_Inputs t_Outputs t_Lock witness m) (IntKind.i64.wrap (x52 + 1)) x66
    else
      some l1_2
def tx_encode_J1 (N : Nat) (t_Version : Int) (t_Inputs : List S_api_Input) (t_Outputs : List S_api_Output) (t_Lock : Int) (witness : Bool) (l1 : List Int) : Option (List Int) :=
  (codec_AppendSize N [] (IntKind.u64.wrap (t_Outputs.length : Int))).bind fun x47 =>
  (app 1 l1 x47).bind fun x48 =>
  (tx_encode_L7 N t_Version t_Inputs t_Outputs t_Lock witness N 0 x48).bind fun p7 =>
  tx_encode_J2 N t_Version t_Inputs t_Outputs t_Lock witness p7
def tx_encode_L8 (N : Nat) (t_Version : Int) (t_Inputs : List S_api_Input) (t_Outputs : List S_api_Output) (t_Lock : Int) (witness : Bool) : Nat → Int → (List Int) → Option (List Int)
  | 0, _, _ => none
  | m + 1, x27, l1_3 =>
    if decide (x27 < (t_Inputs.length : Int)) then
      (idx t_Inputs x27).bind fun x29 =>
      (tx_Point N x29.Prev.Tx x29.Prev.Index).bind fun x34 =>
      (app 1 l1_3 x34).bind fun x35 =>
      (codec_AppendU32 N [] x29.Sequence).bind fun x39 =>
      (app 1 x35 x39).bind fun x40 =>
      (tx_encode_L8 N t_Version t_Inputs t_Outputs t_Lock witness m) (IntKind.i64.wrap (x27 + 1)) x40
    else
      some l1_3
def tx_encode (N : Nat) (t_Version : Int) (t_Inputs : List S_api_Input) (t_Outputs : List S_api_Output) (t_Lock : Int) (witness : Bool) : Option (List Int) :=
  (codec_AppendU32 N [] t_Version).bind fun x16 =>
  (codec_AppendSize N [] (IntKind.u64.wrap (t_Inputs.length : Int))).bind fun x22 =>
  (app 1 x16 x22).bind fun x23 =>
  (tx_encode_L8 N t_Version t_Inputs t_Outputs t_Lock witness N 0 x23).bind fun p8 =>
  tx_encode_J1 N t_Version t_Inputs t_Outputs t_Lock witness p8
def tx_fits_J3 (N : Nat) (t_Version : Int) (t_Inputs : List S_api_Input) (t_Outputs : List S_api_Output) (t_Lock : Int) : Option Bool :=
  (tx_encode N t_Version t_Inputs t_Outputs t_Lock true).bind fun x60 =>
  some (decide ((x60.length : Int) ≤ 20000))
def tx_fits_J5 (N : Nat) (t_Version : Int) (t_Inputs : List S_api_Input) (t_Outputs : List S_api_Output) (t_Lock : Int) (x39 : Int) (rec : Int → Option (LR (Unit) (Bool))) : Option (LR (Unit) (Bool)) :=
  rec (IntKind.i64.wrap (x39 + 1))
def tx_fits_L6 (N : Nat) (t_Version : Int) (t_Inputs : List S_api_Input) (t_Outputs : List S_api_Output) (t_Lock : Int) (x39 : Int) (x41 : S_api_Input) : Nat → Int → Option (LR (Unit) (Bool))
  | 0, _ => none
  | m + 1, x50 =>
    if decide (x50 < (x41.Witness.length : Int)) then
      (idx x41.Witness x50).bind fun x52 =>
      if decide (520 < (x52.length : Int)) then
        some (.ret false)
      else
        (tx_fits_L6 N t_Version t_Inputs t_Outputs t_Lock x39 x41 m) (IntKind.i64.wrap (x50 + 1))
    else
      some (.brk ())
def tx_fits_L4 (N : Nat) (t_Version : Int) (t_Inputs : List S_api_Input) (t_Outputs : List S_api_Output) (t_Lock : Int) : Nat → Int → Option (LR (Unit) (Bool))
  | 0, _ => none
  | m + 1, x39 =>
    if decide (x39 < (t_Inputs.length : Int)) then
      (idx t_Inputs x39).bind fun x41 =>
      if decide (32 < (x41.Witness.length : Int)) then
        some (.ret false)
      else
        (tx_fits_L6 N t_Version t_Inputs t_Outputs t_Lock x39 x41 N 0).bind fun q => match q with
          | .ret v => some (.ret v)
          | .brk p6 =>
            tx_fits_J5 N t_Version t_Inputs t_Outputs t_Lock x39 (tx_fits_L4 N t_Version t_Inputs t_Outputs t_Lock m)
    else
      some (.brk ())
def tx_fits_J2 (N : Nat) (t_Version : Int) (t_Inputs : List S_api_Input) (t_Outputs : List S_api_Output) (t_Lock : Int) : Option Bool :=
  (tx_fits_L4 N t_Version t_Inputs t_Outputs t_Lock N 0).bind fun q => match q with
    | .ret v => some v
    | .brk p4 =>
      tx_fits_J3 N t_Version t_Inputs t_Outputs t_Lock
def tx_fits_J8 (N : Nat) (t_Version : Int) (t_Inputs : List S_api_Input) (t_Outputs : List S_api_Output) (t_Lock : Int) (x22 : Int) (rec : Int → Option (LR (Unit) (Bool))) (x34 : Bool) : Option (LR (Unit) (Bool)) :=
  if x34 then
    some (.ret false)
  else
    rec (IntKind.i64.wrap (x22 + 1))
def tx_fits_L7 (N : Nat) (t_Version : Int) (t_Inputs : List S_api_Input) (t_Outputs : List S_api_Output) (t_Lock : Int) : Nat → Int → Option (LR (Unit) (Bool))
  | 0, _ => none
  | m + 1, x22 =>
    if decide (x22 < (t_Outputs.length : Int)) then
      (idx t_Outputs x22).bind fun x24 =>
      if decide (x24.Value < 0) then
        tx_fits_J8 N t_Version t_Inputs t_Outputs t_Lock x22 (tx_fits_L7 N t_Version t_Inputs t_Outputs t_Lock m) true
      else
        tx_fits_J8 N t_Version t_Inputs t_Outputs t_Lock x22 (tx_fits_L7 N t_Version t_Inputs t_Outputs t_Lock m) (decide (520 < (x24.Script.length : Int)))
    else
      some (.brk ())
def tx_fits_J1 (N : Nat) (t_Version : Int) (t_Inputs : List S_api_Input) (t_Outputs : List S_api_Output) (t_Lock : Int) (x18 : Bool) : Option Bool :=
  if x18 then
    some false
  else
    (tx_fits_L7 N t_Version t_Inputs t_Outputs t_Lock N 0).bind fun q => match q with
      | .ret v => some v
      | .brk p7 =>
        tx_fits_J2 N t_Version t_Inputs t_Outputs t_Lock
def tx_fits (N : Nat) (t_Version : Int) (t_Inputs : List S_api_Input) (t_Outputs : List S_api_Output) (t_Lock : Int) : Option Bool :=
  if decide (64 < (t_Inputs.length : Int)) then
    tx_fits_J1 N t_Version t_Inputs t_Outputs t_Lock true
  else
    tx_fits_J1 N t_Version t_Inputs t_Outputs t_Lock (decide (64 < (t_Outputs.length : Int)))
def tx_money_J1 (N : Nat) : Option Bool :=
  some true
def tx_money_L2 (N : Nat) (l : List S_api_Output) : Nat → Int → Int → Option (LR (Unit) (Bool))
  | 0, _, _ => none
  | m + 1, sum, x8 =>
    if decide (x8 < (l.length : Int)) then
      (idx l x8).bind fun x10 =>
      if decide ((IntKind.i64.wrap (2100000000000000 - sum)) < x10.Value) then
        some (.ret false)
      else
        (tx_money_L2 N l m) (IntKind.i64.wrap (sum + x10.Value)) (IntKind.i64.wrap (x8 + 1))
    else
      some (.brk ())
def tx_money (N : Nat) (l : List S_api_Output) : Option Bool :=
  (tx_money_L2 N l N 0 0).bind fun q => match q with
    | .ret v => some v
    | .brk p2 =>
      tx_money_J1 N
def tx_null (N : Nat) (o_Tx : List Int) (o_Index : Int) : Option Bool :=
  some (aeq32 o_Tx (List.replicate 32 0) ((o_Index == 4294967295) && true))
def tx_Coinbase_J1 (N : Nat) (x2 : Bool) : Option Bool :=
  some x2
def tx_Coinbase (N : Nat) (t_Version : Int) (t_Inputs : List S_api_Input) (t_Outputs : List S_api_Output) (t_Lock : Int) : Option Bool :=
  if (t_Inputs.length : Int) == 1 then
    (idx t_Inputs 0).bind fun x10 =>
    (tx_null N x10.Prev.Tx x10.Prev.Index).bind fun x13 =>
    tx_Coinbase_J1 N x13
  else
    tx_Coinbase_J1 N false
def tx_Check_J3 (N : Nat) (x46 : Bool) : Option Int :=
  if x46 then
    some 92
  else
    some 0
def tx_Check_J2 (N : Nat) (t_Version : Int) (t_Inputs : List S_api_Input) (t_Outputs : List S_api_Output) (t_Lock : Int) (l1 : List (S_api_OutPoint × Bool)) : Option Int :=
  if mget Q_52 l1 (S_api_OutPoint.mk (List.replicate 32 0) 4294967295) false then
    (tx_Coinbase N t_Version t_Inputs t_Outputs t_Lock).bind fun x44 =>
    tx_Check_J3 N (!x44)
  else
    tx_Check_J3 N false
def tx_Check_L4 (N : Nat) (t_Version : Int) (t_Inputs : List S_api_Input) (t_Outputs : List S_api_Output) (t_Lock : Int) : Nat → Int → (List (S_api_OutPoint × Bool)) → Option (LR ((List (S_api_OutPoint × Bool))) (Int))
  | 0, _, _ => none
  | m + 1, x27, l1_1 =>
    if decide (x27 < (t_Inputs.length : Int)) then
      (idx t_Inputs x27).bind fun x29 =>
      if mget Q_52 l1_1 x29.Prev false then
        some (.ret 91)
      else
        (tx_Check_L4 N t_Version t_Inputs t_Outputs t_Lock m) (IntKind.i64.wrap (x27 + 1)) (mput Q_52 l1_1 x29.Prev true)
    else
      some (.brk l1_1)
def tx_Check_J1 (N : Nat) (t_Version : Int) (t_Inputs : List S_api_Input) (t_Outputs : List S_api_Output) (t_Lock : Int) (x18 : Bool) : Option Int :=
  if x18 then
    some 93
  else
    (tx_money N t_Outputs).bind fun x21 =>
    if !x21 then
      some 90
    else
      (tx_Check_L4 N t_Version t_Inputs t_Outputs t_Lock N 0 []).bind fun q => match q with
        | .ret v => some v
        | .brk p4 =>
          tx_Check_J2 N t_Version t_Inputs t_Outputs t_Lock p4
def tx_Check (N : Nat) (t_Version : Int) (t_Inputs : List S_api_Input) (t_Outputs : List S_api_Output) (t_Lock : Int) : Option Int :=
  (tx_fits N t_Version t_Inputs t_Outputs t_Lock).bind fun x7 =>
  if !x7 then
    some 4
  else
    if (t_Inputs.length : Int) == 0 then
      tx_Check_J1 N t_Version t_Inputs t_Outputs t_Lock true
    else
      tx_Check_J1 N t_Version t_Inputs t_Outputs t_Lock ((t_Outputs.length : Int) == 0)
def spend_sum_J1 (N : Nat) (total : Int) : Option (Int × Bool) :=
  some (total, true)
def spend_sum_J3 (N : Nat) (l : List S_api_Coin) (total_1 : Int) (x9 : Int) (x11 : S_api_Coin) (rec : Int → Int → Option (LR (Int) (Int × Bool))) (x24 : Bool) : Option (LR (Int) (Int × Bool)) :=
  if x24 then
    some (.ret (0, false))
  else
    rec (IntKind.i64.wrap (total_1 + x11.Output.Value)) (IntKind.i64.wrap (x9 + 1))
def spend_sum_L2 (N : Nat) (l : List S_api_Coin) : Nat → Int → Int → Option (LR (Int) (Int × Bool))
  | 0, _, _ => none
  | m + 1, total_1, x9 =>
    if decide (x9 < (l.length : Int)) then
      (idx l x9).bind fun x11 =>
      if decide (x11.Output.Value < 0) then
        spend_sum_J3 N l total_1 x9 x11 (spend_sum_L2 N l m) true
      else
        spend_sum_J3 N l total_1 x9 x11 (spend_sum_L2 N l m) (decide ((IntKind.i64.wrap (2100000000000000 - total_1)) < x11.Output.Value))
    else
      some (.brk total_1)
def spend_sum (N : Nat) (l : List S_api_Coin) : Option (Int × Bool) :=
  (spend_sum_L2 N l N 0 0).bind fun q => match q with
    | .ret v => some v
    | .brk p2 =>
      spend_sum_J1 N p2
def spend_Fee_J2 (N : Nat) (fee : Int) : Option (Int × Int) :=
  if decide (fee < 0) then
    some (0, 100)
  else
    some (fee, 0)
def spend_Fee_L3 (N : Nat) (t_Outputs : List S_api_Output) : Nat → Int → Int → Option Int
  | 0, _, _ => none
  | m + 1, fee_1, x51 =>
    if decide (x51 < (t_Outputs.length : Int)) then
      (idx t_Outputs x51).bind fun x53 =>
      (spend_Fee_L3 N t_Outputs m) (IntKind.i64.wrap (fee_1 - x53.Value)) (IntKind.i64.wrap (x51 + 1))
    else
      some fee_1
def spend_Fee_J1 (N : Nat) (t_Version : Int) (t_Inputs : List S_api_Input) (t_Outputs : List S_api_Output) (t_Lock : Int) (l : List S_api_Coin) : Option (Int × Int) :=
  (spend_sum N l).bind fun x43 =>
  if !x43.2 then
    some (0, 90)
  else
    (spend_Fee_L3 N t_Outputs N x43.1 0).bind fun p3 =>
    spend_Fee_J2 N p3
def spend_Fee_L4 (N : Nat) (t_Version : Int) (t_Inputs : List S_api_Input) (t_Outputs : List S_api_Output) (t_Lock : Int) (l : List S_api_Coin) : Nat → Int → Option (LR (Unit) (Int × Int))
  | 0, _ => none
  | m + 1, x26 =>
    if decide (x26 < (l.length : Int)) then
      (idx l x26).bind fun x29 =>
      (idx t_Inputs x26).bind fun x36 =>
      if !(aeq32 x29.Out.Tx x36.Prev.Tx ((x29.Out.Index == x36.Prev.Index) && true)) then
        some (.ret (0, 101))
      else
        (spend_Fee_L4 N t_Version t_Inputs t_Outputs t_Lock l m) (IntKind.i64.wrap (x26 + 1))
    else
      some (.brk ())
def spend_Fee (N : Nat) (t_Version : Int) (t_Inputs : List S_api_Input) (t_Outputs : List S_api_Output) (t_Lock : Int) (l : List S_api_Coin) : Option (Int × Int) :=
  (tx_Check N t_Version t_Inputs t_Outputs t_Lock).bind fun x14 =>
  if x14 != 0 then
    some (0, x14)
  else
    if (l.length : Int) != (t_Inputs.length : Int) then
      some (0, 8)
    else
      (spend_Fee_L4 N t_Version t_Inputs t_Outputs t_Lock l N 0).bind fun q => match q with
        | .ret v => some v
        | .brk p4 =>
          spend_Fee_J1 N t_Version t_Inputs t_Outputs t_Lock l
def law10_sane_J1 (N : Nat) (x0 : Bool) : Option Bool :=
  some x0
def law10_sane (N : Nat) : Option Bool :=
  (spend_Fee N 0 [(S_api_Input.mk (S_api_OutPoint.mk (List.replicate 32 0) 1) 0 []), (S_api_Input.mk (S_api_OutPoint.mk (List.replicate 32 0) 2) 0 [])] [(S_api_Output.mk 10 [])] 0 [(S_api_Coin.mk (S_api_OutPoint.mk (List.replicate 32 0) 1) (S_api_Output.mk 5 []) 0 false), (S_api_Coin.mk (S_api_OutPoint.mk (List.replicate 32 0) 2) (S_api_Output.mk 7 []) 0 false)]).bind fun x29 =>
  (idx [(S_api_Output.mk 10 [])] 0).bind fun x34 =>
  (spend_Fee N 0 [(S_api_Input.mk (S_api_OutPoint.mk (List.replicate 32 0) 1) 0 []), (S_api_Input.mk (S_api_OutPoint.mk (List.replicate 32 0) 2) 0 [])] ([(S_api_Output.mk 10 [])].set (Int.toNat 0) (S_api_Output.mk 13 x34.Script)) 0 [(S_api_Coin.mk (S_api_OutPoint.mk (List.replicate 32 0) 1) (S_api_Output.mk 5 []) 0 false), (S_api_Coin.mk (S_api_OutPoint.mk (List.replicate 32 0) 2) (S_api_Output.mk 7 []) 0 false)]).bind fun x39 =>
  if x29.2 == 0 then
    if x29.1 == 2 then
      law10_sane_J1 N (x39.2 == 100)
    else
      law10_sane_J1 N false
  else
    law10_sane_J1 N false
def keep_Items_J1 (N : Nat) : Option Bool :=
  some true
def keep_Items_L2 (N : Nat) (l : List (List Int)) (vm : Int) : Nat → Int → Option (LR (Unit) (Bool))
  | 0, _ => none
  | m + 1, x15 =>
    if decide (x15 < (l.length : Int)) then
      (idx l x15).bind fun x17 =>
      if decide (vm < (x17.length : Int)) then
        some (.ret false)
      else
        (keep_Items_L2 N l vm m) (IntKind.i64.wrap (x15 + 1))
    else
      some (.brk ())
def keep_Items (N : Nat) (l : List (List Int)) (vn : Int) (vm : Int) : Option Bool :=
  if decide (vn < (l.length : Int)) then
    some false
  else
    (keep_Items_L2 N l vm N 0).bind fun q => match q with
      | .ret v => some v
      | .brk p2 =>
        keep_Items_J1 N
def keep_Tx_J3 (N : Nat) : Option Bool :=
  some true
def keep_Tx_L4 (N : Nat) (t_Outputs : List S_api_Output) : Nat → Int → Option (LR (Unit) (Bool))
  | 0, _ => none
  | m + 1, x32 =>
    if decide (x32 < (t_Outputs.length : Int)) then
      (idx t_Outputs x32).bind fun x34 =>
      if decide (600 < (x34.Script.length : Int)) then
        some (.ret false)
      else
        (keep_Tx_L4 N t_Outputs m) (IntKind.i64.wrap (x32 + 1))
    else
      some (.brk ())
def keep_Tx_J2 (N : Nat) (t_Version : Int) (t_Inputs : List S_api_Input) (t_Outputs : List S_api_Output) (t_Lock : Int) : Option Bool :=
  (keep_Tx_L4 N t_Outputs N 0).bind fun q => match q with
    | .ret v => some v
    | .brk p4 =>
      keep_Tx_J3 N
def keep_Tx_L5 (N : Nat) (t_Version : Int) (t_Inputs : List S_api_Input) (t_Outputs : List S_api_Output) (t_Lock : Int) : Nat → Int → Option (LR (Unit) (Bool))
  | 0, _ => none
  | m + 1, x20 =>
    if decide (x20 < (t_Inputs.length : Int)) then
      (idx t_Inputs x20).bind fun x22 =>
      (keep_Items N x22.Witness 40 600).bind fun x26 =>
      if !x26 then
        some (.ret false)
      else
        (keep_Tx_L5 N t_Version t_Inputs t_Outputs t_Lock m) (IntKind.i64.wrap (x20 + 1))
    else
      some (.brk ())
def keep_Tx_J1 (N : Nat) (t_Version : Int) (t_Inputs : List S_api_Input) (t_Outputs : List S_api_Output) (t_Lock : Int) (x16 : Bool) : Option Bool :=
  if x16 then
    some false
  else
    (keep_Tx_L5 N t_Version t_Inputs t_Outputs t_Lock N 0).bind fun q => match q with
      | .ret v => some v
      | .brk p5 =>
        keep_Tx_J2 N t_Version t_Inputs t_Outputs t_Lock
def keep_Tx (N : Nat) (t_Version : Int) (t_Inputs : List S_api_Input) (t_Outputs : List S_api_Output) (t_Lock : Int) : Option Bool :=
  if decide (70 < (t_Inputs.length : Int)) then
    keep_Tx_J1 N t_Version t_Inputs t_Outputs t_Lock true
  else
    keep_Tx_J1 N t_Version t_Inputs t_Outputs t_Lock (decide (70 < (t_Outputs.length : Int)))
def keep_Coins_J1 (N : Nat) : Option Bool :=
  some true
def keep_Coins_L2 (N : Nat) (l : List S_api_Coin) : Nat → Int → Option (LR (Unit) (Bool))
  | 0, _ => none
  | m + 1, x13 =>
    if decide (x13 < (l.length : Int)) then
      (idx l x13).bind fun x15 =>
      if decide (600 < (x15.Output.Script.length : Int)) then
        some (.ret false)
      else
        (keep_Coins_L2 N l m) (IntKind.i64.wrap (x13 + 1))
    else
      some (.brk ())
def keep_Coins (N : Nat) (l : List S_api_Coin) (vn : Int) : Option Bool :=
  if decide (vn < (l.length : Int)) then
    some false
  else
    (keep_Coins_L2 N l N 0).bind fun q => match q with
      | .ret v => some v
      | .brk p2 =>
        keep_Coins_J1 N
def ref01_little_J1 (N : Nat) (l0 : List Int) : Option (List Int) :=
  some l0
def ref01_little_L2 (N : Nat) (v : Int) (x8 : List Int) : Nat → Int → (List Int) → Option (List Int)
  | 0, _, _ => none
  | m + 1, x11, l0_1 =>
    if decide (x11 < (x8.length : Int)) then
      (shr .u64 v (IntKind.i64.wrap (8 * x11))).bind fun x19 =>
      (idx l0_1 x11).bind fun x21 =>
      (ref01_little_L2 N v x8 m) (IntKind.i64.wrap (x11 + 1)) (l0_1.set (Int.toNat x11) (IntKind.u8.wrap x19))
    else
      some l0_1
def ref01_little (N : Nat) (v : Int) (vn : Int) : Option (List Int) :=
  (mks 1 0 vn).bind fun x8 =>
  (ref01_little_L2 N v x8 N 0 x8).bind fun p2 =>
  ref01_little_J1 N p2
def ref01_joined (N : Nat) (va : List Int) (b : List Int) : Option (List Int) :=
  (mks 1 0 (IntKind.i64.wrap ((va.length : Int) + (b.length : Int)))).bind fun x11 =>
  (app 1 (x11.take 0) va).bind fun x14 =>
  (app 1 x14 b).bind fun x16 =>
  some x16
def ref01_AppendU32 (N : Nat) (b : List Int) (vn : Int) : Option (List Int) :=
  (ref01_little N (IntKind.u64.wrap vn) 4).bind fun x8 =>
  (ref01_joined N b x8).bind fun x9 =>
  some x9
def ref01_AppendSize (N : Nat) (b : List Int) (vn : Int) : Option (List Int) :=
  if decide (vn < 253) then
    (ref01_little N vn 1).bind fun x10 =>
    (ref01_joined N b x10).bind fun x11 =>
    some x11
  else
    if decide (vn < 65536) then
      (ref01_little N vn 2).bind fun x18 =>
      (ref01_joined N [253] x18).bind fun x19 =>
      (ref01_joined N b x19).bind fun x20 =>
      some x20
    else
      if decide (vn < 4294967296) then
        (ref01_little N vn 4).bind fun x27 =>
        (ref01_joined N [254] x27).bind fun x28 =>
        (ref01_joined N b x28).bind fun x29 =>
        some x29
      else
        (ref01_little N vn 8).bind fun x33 =>
        (ref01_joined N [255] x33).bind fun x34 =>
        (ref01_joined N b x34).bind fun x35 =>
        some x35
def ref01_AppendHash (N : Nat) (b : List Int) (vh : List Int) : Option (List Int) :=
  (arr 32 vh).bind fun q =>
  (ref01_joined N b vh).bind fun x7 =>
  some x7
def ref09_Point (N : Nat) (o_Tx : List Int) (o_Index : Int) : Option (List Int) :=
  (arr 32 o_Tx).bind fun q =>
  (ref01_AppendHash N [] o_Tx).bind fun x5 =>
  (ref01_AppendU32 N x5 o_Index).bind fun x8 =>
  some x8
def ref01_AppendU64 (N : Nat) (b : List Int) (vn : Int) : Option (List Int) :=
  (ref01_little N vn 8).bind fun x7 =>
  (ref01_joined N b x7).bind fun x8 =>
  some x8
def ref01_AppendBytes (N : Nat) (b : List Int) (vs : List Int) : Option (List Int) :=
  (ref01_AppendSize N b (IntKind.u64.wrap (vs.length : Int))).bind fun x9 =>
  (ref01_joined N x9 vs).bind fun x11 =>
  some x11
def ref09_Out (N : Nat) (o_Value : Int) (o_Script : List Int) : Option (List Int) :=
  (ref01_AppendU64 N [] (IntKind.u64.wrap o_Value)).bind fun x6 =>
  (ref01_AppendBytes N x6 o_Script).bind fun x9 =>
  some x9
def ref09_encode_J3 (N : Nat) (l0 : List Int) : Option (List Int) :=
  some l0
def ref09_encode_J5 (N : Nat) (t_Inputs : List S_api_Input) (witness : Bool) (x64 : Int) (rec : Int → (List Int) → Option (List Int)) (l0_2 : List Int) : Option (List Int) :=
  rec (IntKind.i64.wrap (x64 + 1)) l0_2
def ref09_encode_L6 (N : Nat) (t_Inputs : List S_api_Input) (witness : Bool) (x64 : Int) (x66 : S_api_Input) : Nat → Int → (List Int) → Option (List Int)
  | 0, _, _ => none
  | m + 1, x79, l0_3 =>
    if decide (x79 < (x66.Witness.length : Int)) then
      (idx x66.Witness x79).bind fun x81 =>
      (ref01_AppendBytes N l0_3 x81).bind fun x85 =>
      (ref09_encode_L6 N t_Inputs witness x64 x66 m) (IntKind.i64.wrap (x79 + 1)) x85
    else
      some l0_3
def ref09_encode_L4 (N : Nat) (t_Inputs : List S_api_Input) (witness : Bool) : Nat → Int → (List Int) → Option (List Int)
  | 0, _, _ => none
  | m + 1, x64, l0_1 =>
    if decide (x64 < (t_Inputs.length : Int)) then
      (idx t_Inputs x64).bind fun x66 =>
      if !witness then
        some l0_1
      else
        (ref01_AppendSize N l0_1 (IntKind.u64.wrap (x66.Witness.length : Int))).bind fun x75 =>
        (ref09_encode_L6 N t_Inputs witness x64 x66 N 0 x75).bind fun p6 =>
        ref09_encode_J5 N t_Inputs witness x64 (ref09_encode_L4 N t_Inputs witness m) p6
    else
      some l0_1
def ref09_encode_J2 (N : Nat) (t_Version : Int) (t_Inputs : List S_api_Input) (t_Outputs : List S_api_Output) (t_Lock : Int) (witness : Bool) (l1_1 : List Int) : Option (List Int) :=
  (ref01_AppendU32 N l1_1 t_Lock).bind fun x60 =>
  (ref09_encode_L4 N t_Inputs witness N 0 x60).bind fun p4 =>
  ref09_encode_J3 N p4
def ref09_encode_L7 (N : Nat) (t_Version : Int) (t_Inputs : List S_api_Input) (t_Outputs : List S_api_Output) (t_Lock : Int) (witness : Bool) : Nat → Int → (List Int) → Option (List Int)
  | 0, _, _ => none
  | m + 1, x48, l1_2 =>
    if decide (x48 < (t_Outputs.length : Int)) then
      (idx t_Outputs x48).bind fun x50 =>
      (ref09_Out N x50.Value x50.Script).bind fun x54 =>
      (app 1 l1_2 x54).bind fun x55 =>
      (ref09_encode_L7 N t_Version t_Inputs t_Outputs t_Lock witness m) (IntKind.i64.wrap (x48 + 1)) x55
    else
      some l1_2
def ref09_encode_J1 (N : Nat) (t_Version : Int) (t_Inputs : List S_api_Input) (t_Outputs : List S_api_Output) (t_Lock : Int) (witness : Bool) (l1 : List Int) : Option (List Int) :=
  (ref01_AppendSize N l1 (IntKind.u64.wrap (t_Outputs.length : Int))).bind fun x44 =>
  (ref09_encode_L7 N t_Version t_Inputs t_Outputs t_Lock witness N 0 x44).bind fun p7 =>
  ref09_encode_J2 N t_Version t_Inputs t_Outputs t_Lock witness p7
def ref09_encode_J9 (N : Nat) (t_Version : Int) (t_Inputs : List S_api_Input) (t_Outputs : List S_api_Output) (t_Lock : Int) (witness : Bool) (x26 : Int) (rec : Int → (List Int) → Option (List Int)) (l1_4 : List Int) : Option (List Int) :=
  rec (IntKind.i64.wrap (x26 + 1)) l1_4
def ref09_encode_L8 (N : Nat) (t_Version : Int) (t_Inputs : List S_api_Input) (t_Outputs : List S_api_Output) (t_Lock : Int) (witness : Bool) : Nat → Int → (List Int) → Option (List Int)
  | 0, _, _ => none
  | m + 1, x26, l1_3 =>
    if decide (x26 < (t_Inputs.length : Int)) then
      (idx t_Inputs x26).bind fun x28 =>
      (ref09_Point N x28.Prev.Tx x28.Prev.Index).bind fun x33 =>
      (app 1 l1_3 x33).bind fun x34 =>
      (ref01_AppendU32 N x34 x28.Sequence).bind fun x37 =>
      ref09_encode_J9 N t_Version t_Inputs t_Outputs t_Lock witness x26 (ref09_encode_L8 N t_Version t_Inputs t_Outputs t_Lock witness m) x37
    else
      some l1_3
def ref09_encode (N : Nat) (t_Version : Int) (t_Inputs : List S_api_Input) (t_Outputs : List S_api_Output) (t_Lock : Int) (witness : Bool) : Option (List Int) :=
  (ref01_AppendU32 N [] t_Version).bind fun x16 =>
  (ref01_AppendSize N x16 (IntKind.u64.wrap (t_Inputs.length : Int))).bind fun x22 =>
  (ref09_encode_L8 N t_Version t_Inputs t_Outputs t_Lock witness N 0 x22).bind fun p8 =>
  ref09_encode_J1 N t_Version t_Inputs t_Outputs t_Lock witness p8
def ref09_Fits_J3 (N : Nat) (t_Version : Int) (t_Inputs : List S_api_Input) (t_Outputs : List S_api_Output) (t_Lock : Int) : Option Bool :=
  (ref09_encode N t_Version t_Inputs t_Outputs t_Lock true).bind fun x60 =>
  some (decide ((x60.length : Int) ≤ 20000))
def ref09_Fits_J5 (N : Nat) (t_Version : Int) (t_Inputs : List S_api_Input) (t_Outputs : List S_api_Output) (t_Lock : Int) (x39 : Int) (rec : Int → Option (LR (Unit) (Bool))) : Option (LR (Unit) (Bool)) :=
  rec (IntKind.i64.wrap (x39 + 1))
def ref09_Fits_L6 (N : Nat) (t_Version : Int) (t_Inputs : List S_api_Input) (t_Outputs : List S_api_Output) (t_Lock : Int) (x39 : Int) (x41 : S_api_Input) : Nat → Int → Option (LR (Unit) (Bool))
  | 0, _ => none
  | m + 1, x50 =>
    if decide (x50 < (x41.Witness.length : Int)) then
      (idx x41.Witness x50).bind fun x52 =>
      if decide (520 < (x52.length : Int)) then
        some (.ret false)
      else
        (ref09_Fits_L6 N t_Version t_Inputs t_Outputs t_Lock x39 x41 m) (IntKind.i64.wrap (x50 + 1))
    else
      some (.brk ())
def ref09_Fits_L4 (N : Nat) (t_Version : Int) (t_Inputs : List S_api_Input) (t_Outputs : List S_api_Output) (t_Lock : Int) : Nat → Int → Option (LR (Unit) (Bool))
  | 0, _ => none
  | m + 1, x39 =>
    if decide (x39 < (t_Inputs.length : Int)) then
      (idx t_Inputs x39).bind fun x41 =>
      if decide (32 < (x41.Witness.length : Int)) then
        some (.ret false)
      else
        (ref09_Fits_L6 N t_Version t_Inputs t_Outputs t_Lock x39 x41 N 0).bind fun q => match q with
          | .ret v => some (.ret v)
          | .brk p6 =>
            ref09_Fits_J5 N t_Version t_Inputs t_Outputs t_Lock x39 (ref09_Fits_L4 N t_Version t_Inputs t_Outputs t_Lock m)
    else
      some (.brk ())
def ref09_Fits_J2 (N : Nat) (t_Version : Int) (t_Inputs : List S_api_Input) (t_Outputs : List S_api_Output) (t_Lock : Int) : Option Bool :=
  (ref09_Fits_L4 N t_Version t_Inputs t_Outputs t_Lock N 0).bind fun q => match q with
    | .ret v => some v
    | .brk p4 =>
      ref09_Fits_J3 N t_Version t_Inputs t_Outputs t_Lock
def ref09_Fits_J8 (N : Nat) (t_Version : Int) (t_Inputs : List S_api_Input) (t_Outputs : List S_api_Output) (t_Lock : Int) (x22 : Int) (rec : Int → Option (LR (Unit) (Bool))) (x34 : Bool) : Option (LR (Unit) (Bool)) :=
  if x34 then
    some (.ret false)
  else
    rec (IntKind.i64.wrap (x22 + 1))
def ref09_Fits_L7 (N : Nat) (t_Version : Int) (t_Inputs : List S_api_Input) (t_Outputs : List S_api_Output) (t_Lock : Int) : Nat → Int → Option (LR (Unit) (Bool))
  | 0, _ => none
  | m + 1, x22 =>
    if decide (x22 < (t_Outputs.length : Int)) then
      (idx t_Outputs x22).bind fun x24 =>
      if decide (x24.Value < 0) then
        ref09_Fits_J8 N t_Version t_Inputs t_Outputs t_Lock x22 (ref09_Fits_L7 N t_Version t_Inputs t_Outputs t_Lock m) true
      else
        ref09_Fits_J8 N t_Version t_Inputs t_Outputs t_Lock x22 (ref09_Fits_L7 N t_Version t_Inputs t_Outputs t_Lock m) (decide (520 < (x24.Script.length : Int)))
    else
      some (.brk ())
def ref09_Fits_J1 (N : Nat) (t_Version : Int) (t_Inputs : List S_api_Input) (t_Outputs : List S_api_Output) (t_Lock : Int) (x18 : Bool) : Option Bool :=
  if x18 then
    some false
  else
    (ref09_Fits_L7 N t_Version t_Inputs t_Outputs t_Lock N 0).bind fun q => match q with
      | .ret v => some v
      | .brk p7 =>
        ref09_Fits_J2 N t_Version t_Inputs t_Outputs t_Lock
def ref09_Fits (N : Nat) (t_Version : Int) (t_Inputs : List S_api_Input) (t_Outputs : List S_api_Output) (t_Lock : Int) : Option Bool :=
  if decide (64 < (t_Inputs.length : Int)) then
    ref09_Fits_J1 N t_Version t_Inputs t_Outputs t_Lock true
  else
    ref09_Fits_J1 N t_Version t_Inputs t_Outputs t_Lock (decide (64 < (t_Outputs.length : Int)))
def ref09_Null (N : Nat) (o_Tx : List Int) (o_Index : Int) : Option Bool :=
  some (aeq32 o_Tx (List.replicate 32 0) ((o_Index == 4294967295) && true))
def ref09_Coinbase_J1 (N : Nat) (x2 : Bool) : Option Bool :=
  some x2
def ref09_Coinbase (N : Nat) (t_Version : Int) (t_Inputs : List S_api_Input) (t_Outputs : List S_api_Output) (t_Lock : Int) : Option Bool :=
  if (t_Inputs.length : Int) == 1 then
    (idx t_Inputs 0).bind fun x10 =>
    (ref09_Null N x10.Prev.Tx x10.Prev.Index).bind fun x13 =>
    ref09_Coinbase_J1 N x13
  else
    ref09_Coinbase_J1 N false
def ref09_Check_J4 (N : Nat) : Option Int :=
  some 0
def ref09_Check_J6 (N : Nat) (t_Version : Int) (t_Inputs : List S_api_Input) (t_Outputs : List S_api_Output) (t_Lock : Int) (x68 : Int) (rec : Int → Option (LR (Unit) (Int))) (x79 : Bool) : Option (LR (Unit) (Int)) :=
  if x79 then
    some (.ret 92)
  else
    rec (IntKind.i64.wrap (x68 + 1))
def ref09_Check_L5 (N : Nat) (t_Version : Int) (t_Inputs : List S_api_Input) (t_Outputs : List S_api_Output) (t_Lock : Int) : Nat → Int → Option (LR (Unit) (Int))
  | 0, _ => none
  | m + 1, x68 =>
    if decide (x68 < (t_Inputs.length : Int)) then
      (idx t_Inputs x68).bind fun x70 =>
      (ref09_Null N x70.Prev.Tx x70.Prev.Index).bind fun x74 =>
      if x74 then
        (ref09_Coinbase N t_Version t_Inputs t_Outputs t_Lock).bind fun x77 =>
        ref09_Check_J6 N t_Version t_Inputs t_Outputs t_Lock x68 (ref09_Check_L5 N t_Version t_Inputs t_Outputs t_Lock m) (!x77)
      else
        ref09_Check_J6 N t_Version t_Inputs t_Outputs t_Lock x68 (ref09_Check_L5 N t_Version t_Inputs t_Outputs t_Lock m) false
    else
      some (.brk ())
def ref09_Check_J3 (N : Nat) (t_Version : Int) (t_Inputs : List S_api_Input) (t_Outputs : List S_api_Output) (t_Lock : Int) : Option Int :=
  (ref09_Check_L5 N t_Version t_Inputs t_Outputs t_Lock N 0).bind fun q => match q with
    | .ret v => some v
    | .brk p5 =>
      ref09_Check_J4 N
def ref09_Check_J8 (N : Nat) (t_Version : Int) (t_Inputs : List S_api_Input) (t_Outputs : List S_api_Output) (t_Lock : Int) (x43 : Int) (rec : Int → Option (LR (Unit) (Int))) : Option (LR (Unit) (Int)) :=
  rec (IntKind.i64.wrap (x43 + 1))
def ref09_Check_L9 (N : Nat) (t_Version : Int) (t_Inputs : List S_api_Input) (t_Outputs : List S_api_Output) (t_Lock : Int) (x43 : Int) : Nat → Int → Option (LR (Unit) (Int))
  | 0, _ => none
  | m + 1, k =>
    if decide (k < x43) then
      (idx t_Inputs x43).bind fun x54 =>
      (idx t_Inputs k).bind fun x60 =>
      if (aeq32 x54.Prev.Tx x60.Prev.Tx ((x54.Prev.Index == x60.Prev.Index) && true)) then
        some (.ret 91)
      else
        (ref09_Check_L9 N t_Version t_Inputs t_Outputs t_Lock x43 m) (IntKind.i64.wrap (k + 1))
    else
      some (.brk ())
def ref09_Check_L7 (N : Nat) (t_Version : Int) (t_Inputs : List S_api_Input) (t_Outputs : List S_api_Output) (t_Lock : Int) : Nat → Int → Option (LR (Unit) (Int))
  | 0, _ => none
  | m + 1, x43 =>
    if decide (x43 < (t_Inputs.length : Int)) then
      (ref09_Check_L9 N t_Version t_Inputs t_Outputs t_Lock x43 N 0).bind fun q => match q with
        | .ret v => some (.ret v)
        | .brk p9 =>
          ref09_Check_J8 N t_Version t_Inputs t_Outputs t_Lock x43 (ref09_Check_L7 N t_Version t_Inputs t_Outputs t_Lock m)
    else
      some (.brk ())
def ref09_Check_J2 (N : Nat) (t_Version : Int) (t_Inputs : List S_api_Input) (t_Outputs : List S_api_Output) (t_Lock : Int) (sum : Int) : Option Int :=
  if decide (2100000000000000 < sum) then
    some 90
  else
    (ref09_Check_L7 N t_Version t_Inputs t_Outputs t_Lock N 0).bind fun q => match q with
      | .ret v => some v
      | .brk p7 =>
        ref09_Check_J3 N t_Version t_Inputs t_Outputs t_Lock
def ref09_Check_L10 (N : Nat) (t_Version : Int) (t_Inputs : List S_api_Input) (t_Outputs : List S_api_Output) (t_Lock : Int) : Nat → Int → Int → Option (LR (Int) (Int))
  | 0, _, _ => none
  | m + 1, sum_1, x26 =>
    if decide (x26 < (t_Outputs.length : Int)) then
      (idx t_Outputs x26).bind fun x28 =>
      if decide (2100000000000000 < x28.Value) then
        some (.ret 90)
      else
        (ref09_Check_L10 N t_Version t_Inputs t_Outputs t_Lock m) (IntKind.i64.wrap (sum_1 + x28.Value)) (IntKind.i64.wrap (x26 + 1))
    else
      some (.brk sum_1)
def ref09_Check_J1 (N : Nat) (t_Version : Int) (t_Inputs : List S_api_Input) (t_Outputs : List S_api_Output) (t_Lock : Int) (x22 : Bool) : Option Int :=
  if x22 then
    some 93
  else
    (ref09_Check_L10 N t_Version t_Inputs t_Outputs t_Lock N 0 0).bind fun q => match q with
      | .ret v => some v
      | .brk p10 =>
        ref09_Check_J2 N t_Version t_Inputs t_Outputs t_Lock p10
def ref09_Check (N : Nat) (t_Version : Int) (t_Inputs : List S_api_Input) (t_Outputs : List S_api_Output) (t_Lock : Int) : Option Int :=
  (ref09_Fits N t_Version t_Inputs t_Outputs t_Lock).bind fun x11 =>
  if !x11 then
    some 4
  else
    if (t_Inputs.length : Int) == 0 then
      ref09_Check_J1 N t_Version t_Inputs t_Outputs t_Lock true
    else
      ref09_Check_J1 N t_Version t_Inputs t_Outputs t_Lock ((t_Outputs.length : Int) == 0)
def ref10_Fee_J3 (N : Nat) (sum_1 : Int) : Option (Int × Int) :=
  if decide (sum_1 < 0) then
    some (0, 100)
  else
    some (sum_1, 0)
def ref10_Fee_L4 (N : Nat) (t_Outputs : List S_api_Output) : Nat → Int → Int → Option Int
  | 0, _, _ => none
  | m + 1, sum_2, x69 =>
    if decide (x69 < (t_Outputs.length : Int)) then
      (idx t_Outputs x69).bind fun x71 =>
      (ref10_Fee_L4 N t_Outputs m) (IntKind.i64.wrap (sum_2 - x71.Value)) (IntKind.i64.wrap (x69 + 1))
    else
      some sum_2
def ref10_Fee_J2 (N : Nat) (t_Version : Int) (t_Inputs : List S_api_Input) (t_Outputs : List S_api_Output) (t_Lock : Int) (sum : Int) : Option (Int × Int) :=
  if decide (2100000000000000 < sum) then
    some (0, 90)
  else
    (ref10_Fee_L4 N t_Outputs N sum 0).bind fun p4 =>
    ref10_Fee_J3 N p4
def ref10_Fee_J6 (N : Nat) (t_Version : Int) (t_Inputs : List S_api_Input) (t_Outputs : List S_api_Output) (t_Lock : Int) (l : List S_api_Coin) (sum_3 : Int) (x44 : Int) (x46 : S_api_Coin) (rec : Int → Int → Option (LR (Int) (Int × Int))) (x57 : Bool) : Option (LR (Int) (Int × Int)) :=
  if x57 then
    some (.ret (0, 90))
  else
    rec (IntKind.i64.wrap (sum_3 + x46.Output.Value)) (IntKind.i64.wrap (x44 + 1))
def ref10_Fee_L5 (N : Nat) (t_Version : Int) (t_Inputs : List S_api_Input) (t_Outputs : List S_api_Output) (t_Lock : Int) (l : List S_api_Coin) : Nat → Int → Int → Option (LR (Int) (Int × Int))
  | 0, _, _ => none
  | m + 1, sum_3, x44 =>
    if decide (x44 < (l.length : Int)) then
      (idx l x44).bind fun x46 =>
      if decide (x46.Output.Value < 0) then
        ref10_Fee_J6 N t_Version t_Inputs t_Outputs t_Lock l sum_3 x44 x46 (ref10_Fee_L5 N t_Version t_Inputs t_Outputs t_Lock l m) true
      else
        ref10_Fee_J6 N t_Version t_Inputs t_Outputs t_Lock l sum_3 x44 x46 (ref10_Fee_L5 N t_Version t_Inputs t_Outputs t_Lock l m) (decide (2100000000000000 < x46.Output.Value))
    else
      some (.brk sum_3)
def ref10_Fee_J1 (N : Nat) (t_Version : Int) (t_Inputs : List S_api_Input) (t_Outputs : List S_api_Output) (t_Lock : Int) (l : List S_api_Coin) : Option (Int × Int) :=
  (ref10_Fee_L5 N t_Version t_Inputs t_Outputs t_Lock l N 0 0).bind fun q => match q with
    | .ret v => some v
    | .brk p5 =>
      ref10_Fee_J2 N t_Version t_Inputs t_Outputs t_Lock p5
def ref10_Fee_L7 (N : Nat) (t_Version : Int) (t_Inputs : List S_api_Input) (t_Outputs : List S_api_Output) (t_Lock : Int) (l : List S_api_Coin) : Nat → Int → Option (LR (Unit) (Int × Int))
  | 0, _ => none
  | m + 1, x26 =>
    if decide (x26 < (l.length : Int)) then
      (idx l x26).bind fun x31 =>
      (idx t_Inputs x26).bind fun x37 =>
      if !(aeq32 x31.Out.Tx x37.Prev.Tx ((x31.Out.Index == x37.Prev.Index) && true)) then
        some (.ret (0, 101))
      else
        (ref10_Fee_L7 N t_Version t_Inputs t_Outputs t_Lock l m) (IntKind.i64.wrap (x26 + 1))
    else
      some (.brk ())
def ref10_Fee (N : Nat) (t_Version : Int) (t_Inputs : List S_api_Input) (t_Outputs : List S_api_Output) (t_Lock : Int) (l : List S_api_Coin) : Option (Int × Int) :=
  (ref09_Check N t_Version t_Inputs t_Outputs t_Lock).bind fun x14 =>
  if x14 != 0 then
    some (0, x14)
  else
    if (l.length : Int) != (t_Inputs.length : Int) then
      some (0, 8)
    else
      (ref10_Fee_L7 N t_Version t_Inputs t_Outputs t_Lock l N 0).bind fun q => match q with
        | .ret v => some v
        | .brk p7 =>
          ref10_Fee_J1 N t_Version t_Inputs t_Outputs t_Lock l
def law10_SpendFees_J2 (N : Nat) (x4 : Bool) : Option Bool :=
  some x4
def law10_SpendFees_J1 (N : Nat) (t_Version : Int) (t_Inputs : List S_api_Input) (t_Outputs : List S_api_Output) (t_Lock : Int) (l : List S_api_Coin) (x18 : Bool) : Option Bool :=
  if x18 then
    some true
  else
    (spend_Fee N t_Version t_Inputs t_Outputs t_Lock l).bind fun x22 =>
    (ref10_Fee N t_Version t_Inputs t_Outputs t_Lock l).bind fun x28 =>
    if x22.1 == x28.1 then
      law10_SpendFees_J2 N (x22.2 == x28.2)
    else
      law10_SpendFees_J2 N false
def law10_SpendFees (N : Nat) (t_Version : Int) (t_Inputs : List S_api_Input) (t_Outputs : List S_api_Output) (t_Lock : Int) (l : List S_api_Coin) : Option Bool :=
  (law10_sane N).bind fun x9 =>
  if !x9 then
    some false
  else
    (keep_Tx N t_Version t_Inputs t_Outputs t_Lock).bind fun x12 =>
    if !x12 then
      law10_SpendFees_J1 N t_Version t_Inputs t_Outputs t_Lock l true
    else
      (keep_Coins N l 70).bind fun x16 =>
      law10_SpendFees_J1 N t_Version t_Inputs t_Outputs t_Lock l (!x16)
end Go.Proofs.Ytbjiaiobpbpjoaa
