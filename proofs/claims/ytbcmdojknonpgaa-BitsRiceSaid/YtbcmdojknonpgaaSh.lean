import Derived.Test.YtbcmdojknonpgaaVmDrawG
set_option linter.unusedVariables false
set_option linter.unusedSimpArgs false
namespace Go.Proofs.Ytbcmdojknonpgaa
open Go Go.Vm

def bits_Valid_J2 (N : Nat) (x2 : Bool) : Option Bool :=
  some x2
def bits_Valid_J1 (N : Nat) (b_Data : List Int) (b_N : Int) (x20 : Bool) : Option Bool :=
  if x20 then
    some false
  else
    if (Int.tmod b_N 8) == 0 then
      bits_Valid_J2 N true
    else
      (idx b_Data (IntKind.i64.wrap ((b_Data.length : Int) - 1))).bind fun x32 =>
      (shr .u8 255 (Int.tmod b_N 8)).bind fun x37 =>
      bits_Valid_J2 N ((bits .and .u8 x32 x37) == 0)
def bits_Valid (N : Nat) (b_Data : List Int) (b_N : Int) : Option Bool :=
  if decide (b_N < 0) then
    bits_Valid_J1 N b_Data b_N true
  else
    if decide (1600000 < b_N) then
      bits_Valid_J1 N b_Data b_N true
    else
      bits_Valid_J1 N b_Data b_N ((b_Data.length : Int) != (IntKind.i64.wrap (Int.tdiv (IntKind.i64.wrap (b_N + 7)) 8)))
def bits_begin (N : Nat) (b_Data : List Int) (b_N : Int) : Option ((List Int) × Int) :=
  (mks 1 0 (b_Data.length : Int)).bind fun x7 =>
  some (cpy x7 b_Data, b_N)
def bits_writer_put_J2 (N : Nat) (w_Bits_N : Int) (l2_1 : List Int) : Option ((List Int) × Int) :=
  some (l2_1, IntKind.i64.wrap (w_Bits_N + 1))
def bits_writer_put_J1 (N : Nat) (w_Bits_N : Int) (one : Bool) (l2 : List Int) : Option ((List Int) × Int) :=
  if one then
    (idx l2 (IntKind.i64.wrap (Int.tdiv w_Bits_N 8))).bind fun x34 =>
    (shr .u8 128 (Int.tmod w_Bits_N 8)).bind fun x42 =>
    bits_writer_put_J2 N w_Bits_N (l2.set (Int.toNat (IntKind.i64.wrap (Int.tdiv w_Bits_N 8))) (bits .or .u8 x34 x42))
  else
    bits_writer_put_J2 N w_Bits_N l2
def bits_writer_put (N : Nat) (w_Bits_Data : List Int) (w_Bits_N : Int) (one : Bool) : Option ((List Int) × Int) :=
  if (Int.tmod w_Bits_N 8) == 0 then
    (app 1 w_Bits_Data [0]).bind fun x18 =>
    bits_writer_put_J1 N w_Bits_N one x18
  else
    bits_writer_put_J1 N w_Bits_N one w_Bits_Data
def bits_writer_number_L1 (N : Nat) (v : Int) (vn : Int) : Nat → Int → Int → (List Int) → Option (Int × (List Int))
  | 0, _, _, _ => none
  | m + 1, x8, c0, l2 =>
    if decide (x8 < vn) then
      (shr .u64 v (IntKind.i64.wrap ((IntKind.i64.wrap (vn - 1)) - x8))).bind fun x17 =>
      (bits_writer_put N l2 c0 ((bits .and .u64 x17 1) == 1)).bind fun x20 =>
      (bits_writer_number_L1 N v vn m) (IntKind.i64.wrap (x8 + 1)) x20.2 x20.1
    else
      some (c0, l2)
def bits_writer_number (N : Nat) (w_Bits_Data : List Int) (w_Bits_N : Int) (v : Int) (vn : Int) : Option ((List Int) × Int) :=
  (bits_writer_number_L1 N v vn N 0 w_Bits_N w_Bits_Data).bind fun p1 =>
  some (p1.2, p1.1)
def bits_Append_J1 (N : Nat) (b_Data : List Int) (b_N : Int) (v : Int) (vn : Int) (x18 : Bool) : Option ((List Int) × Int × Int) :=
  if x18 then
    some ([], 0, 5)
  else
    if decide (1600000 < (IntKind.i64.wrap (b_N + vn))) then
      some ([], 0, 4)
    else
      (bits_begin N b_Data b_N).bind fun x27 =>
      (bits_writer_number N x27.1 x27.2 v vn).bind fun x31 =>
      some (x31.1, x31.2, 0)
def bits_Append (N : Nat) (b_Data : List Int) (b_N : Int) (v : Int) (vn : Int) : Option ((List Int) × Int × Int) :=
  (bits_Valid N b_Data b_N).bind fun x10 =>
  if !x10 then
    some ([], 0, 6)
  else
    if decide (vn < 0) then
      bits_Append_J1 N b_Data b_N v vn true
    else
      bits_Append_J1 N b_Data b_N v vn (decide (64 < vn))
def bits_AppendRice_J3 (N : Nat) (v : Int) (p : Int) (c1 : Int) (l2 : List Int) : Option ((List Int) × Int × Int) :=
  (bits_writer_put N l2 c1 false).bind fun x47 =>
  (bits_writer_number N x47.1 x47.2 v p).bind fun x51 =>
  some (x51.1, x51.2, 0)
def bits_AppendRice_L4 (N : Nat) (v : Int) (p : Int) (x23 : Int) : Nat → Int → Int → (List Int) → Option (Int × (List Int))
  | 0, _, _, _ => none
  | m + 1, x41, c1_1, l2_1 =>
    if decide (x41 < x23) then
      (bits_writer_put N l2_1 c1_1 true).bind fun x44 =>
      (bits_AppendRice_L4 N v p x23 m) (IntKind.u64.wrap (x41 + 1)) x44.2 x44.1
    else
      some (c1_1, l2_1)
def bits_AppendRice_J2 (N : Nat) (b_Data : List Int) (b_N : Int) (v : Int) (p : Int) (x23 : Int) (x36 : Bool) : Option ((List Int) × Int × Int) :=
  if x36 then
    some ([], 0, 4)
  else
    (bits_begin N b_Data b_N).bind fun x39 =>
    (bits_AppendRice_L4 N v p x23 N 0 x39.2 x39.1).bind fun p4 =>
    bits_AppendRice_J3 N v p p4.1 p4.2
def bits_AppendRice_J1 (N : Nat) (b_Data : List Int) (b_N : Int) (v : Int) (p : Int) (x19 : Bool) : Option ((List Int) × Int × Int) :=
  if x19 then
    some ([], 0, 5)
  else
    (shr .u64 v p).bind fun x23 =>
    if decide (65536 < x23) then
      bits_AppendRice_J2 N b_Data b_N v p x23 true
    else
      bits_AppendRice_J2 N b_Data b_N v p x23 (decide (1600000 < (IntKind.i64.wrap ((IntKind.i64.wrap ((IntKind.i64.wrap (b_N + (IntKind.i64.wrap x23))) + 1)) + p))))
def bits_AppendRice (N : Nat) (b_Data : List Int) (b_N : Int) (v : Int) (p : Int) : Option ((List Int) × Int × Int) :=
  (bits_Valid N b_Data b_N).bind fun x11 =>
  if !x11 then
    some ([], 0, 6)
  else
    if decide (p < 0) then
      bits_AppendRice_J1 N b_Data b_N v p true
    else
      bits_AppendRice_J1 N b_Data b_N v p (decide (32 < p))
def law18_sane_J1 (N : Nat) (x0 : Bool) : Option Bool :=
  some x0
def law18_sane (N : Nat) : Option Bool :=
  (bits_Append N [] 0 5 3).bind fun x7 =>
  (bits_AppendRice N [] 0 9 2).bind fun x12 =>
  if x7.2.2 == 0 then
    if x7.2.1 == 3 then
      if (x7.1.length : Int) == 1 then
        (idx x7.1 0).bind fun x31 =>
        if x31 == 160 then
          if x12.2.2 == 0 then
            if x12.2.1 == 5 then
              if (x12.1.length : Int) == 1 then
                (idx x12.1 0).bind fun x53 =>
                law18_sane_J1 N (x53 == 200)
              else
                law18_sane_J1 N false
            else
              law18_sane_J1 N false
          else
            law18_sane_J1 N false
        else
          law18_sane_J1 N false
      else
        law18_sane_J1 N false
    else
      law18_sane_J1 N false
  else
    law18_sane_J1 N false
def law18_kept (N : Nat) (b_Data : List Int) (b_N : Int) : Option Bool :=
  some (decide ((b_Data.length : Int) ≤ 300))
def ref18_bit (N : Nat) (b_Data : List Int) (b_N : Int) (vi : Int) : Option Bool :=
  (idx b_Data (IntKind.i64.wrap (Int.tdiv vi 8))).bind fun x9 =>
  (shr .u8 x9 (IntKind.i64.wrap (7 - (Int.tmod vi 8)))).bind fun x14 =>
  some ((bits .and .u8 x14 1) == 1)
def ref18_Valid_J2 (N : Nat) : Option Bool :=
  some true
def ref18_Valid_L3 (N : Nat) (b_Data : List Int) (b_N : Int) : Nat → Int → Option (LR (Unit) (Bool))
  | 0, _ => none
  | m + 1, vi =>
    if decide (vi < (IntKind.i64.wrap (8 * (b_Data.length : Int)))) then
      (ref18_bit N b_Data b_N vi).bind fun x34 =>
      if x34 then
        some (.ret false)
      else
        (ref18_Valid_L3 N b_Data b_N m) (IntKind.i64.wrap (vi + 1))
    else
      some (.brk ())
def ref18_Valid_J1 (N : Nat) (b_Data : List Int) (b_N : Int) (x21 : Bool) : Option Bool :=
  if x21 then
    some false
  else
    (ref18_Valid_L3 N b_Data b_N N b_N).bind fun q => match q with
      | .ret v => some v
      | .brk p3 =>
        ref18_Valid_J2 N
def ref18_Valid (N : Nat) (b_Data : List Int) (b_N : Int) : Option Bool :=
  if decide (b_N < 0) then
    ref18_Valid_J1 N b_Data b_N true
  else
    if decide (1600000 < b_N) then
      ref18_Valid_J1 N b_Data b_N true
    else
      ref18_Valid_J1 N b_Data b_N ((b_Data.length : Int) != (IntKind.i64.wrap (Int.tdiv (IntKind.i64.wrap (b_N + 7)) 8)))
def ref01_joined (N : Nat) (va : List Int) (b : List Int) : Option (List Int) :=
  (mks 1 0 (IntKind.i64.wrap ((va.length : Int) + (b.length : Int)))).bind fun x11 =>
  (app 1 (x11.take 0) va).bind fun x14 =>
  (app 1 x14 b).bind fun x16 =>
  some x16
def ref01_Join_J1 (N : Nat) (l0 : List Int) : Option (List Int) :=
  some l0
def ref01_Join_L2 (N : Nat) (l : List (List Int)) : Nat → Int → (List Int) → Option (List Int)
  | 0, _, _ => none
  | m + 1, x8, l0_1 =>
    if decide (x8 < (l.length : Int)) then
      (idx l x8).bind fun x10 =>
      (ref01_joined N l0_1 x10).bind fun x14 =>
      (ref01_Join_L2 N l m) (IntKind.i64.wrap (x8 + 1)) x14
    else
      some l0_1
def ref01_Join (N : Nat) (l : List (List Int)) : Option (List Int) :=
  (ref01_Join_L2 N l N 0 []).bind fun p2 =>
  ref01_Join_J1 N p2
def ref18_put_J2 (N : Nat) (b_N : Int) (l3_1 : List Int) : Option ((List Int) × Int) :=
  some (l3_1, IntKind.i64.wrap (b_N + 1))
def ref18_put_J1 (N : Nat) (b_N : Int) (v : Bool) (l3 : List Int) : Option ((List Int) × Int) :=
  if v then
    (idx l3 (IntKind.i64.wrap (Int.tdiv b_N 8))).bind fun x20 =>
    (shl .u8 1 (IntKind.i64.wrap (7 - (Int.tmod b_N 8)))).bind fun x26 =>
    ref18_put_J2 N b_N (l3.set (Int.toNat (IntKind.i64.wrap (Int.tdiv b_N 8))) (bits .or .u8 x20 x26))
  else
    ref18_put_J2 N b_N l3
def ref18_put (N : Nat) (b_Data : List Int) (b_N : Int) (v : Bool) : Option ((List Int) × Int) :=
  if (Int.tmod b_N 8) == 0 then
    (app 1 b_Data [0]).bind fun x12 =>
    ref18_put_J1 N b_N v x12
  else
    ref18_put_J1 N b_N v b_Data
def ref18_Append_J3 (N : Nat) (c1 : Int) (l2_1 : List Int) : Option ((List Int) × Int × Int) :=
  some (l2_1, c1, 0)
def ref18_Append_L4 (N : Nat) (v : Int) : Nat → Int → Int → (List Int) → Option (Int × (List Int))
  | 0, _, _, _ => none
  | m + 1, vi, c1_1, l2_2 =>
    if decide (0 ≤ vi) then
      (shr .u64 v vi).bind fun x46 =>
      (ref18_put N l2_2 c1_1 ((bits .and .u64 x46 1) == 1)).bind fun x49 =>
      (ref18_Append_L4 N v m) (IntKind.i64.wrap (vi - 1)) x49.2 x49.1
    else
      some (c1_1, l2_2)
def ref18_Append_J2 (N : Nat) (b_N : Int) (v : Int) (vn : Int) (l2 : List Int) : Option ((List Int) × Int × Int) :=
  (ref18_Append_L4 N v N (IntKind.i64.wrap (vn - 1)) b_N l2).bind fun p4 =>
  ref18_Append_J3 N p4.1 p4.2
def ref18_Append_J1 (N : Nat) (b_Data : List Int) (b_N : Int) (v : Int) (vn : Int) (x15 : Bool) : Option ((List Int) × Int × Int) :=
  if x15 then
    some ([], 0, 5)
  else
    if decide (1600000 < (IntKind.i64.wrap (b_N + vn))) then
      some ([], 0, 4)
    else
      (ref01_Join N [b_Data]).bind fun x33 =>
      ref18_Append_J2 N b_N v vn x33
def ref18_Append (N : Nat) (b_Data : List Int) (b_N : Int) (v : Int) (vn : Int) : Option ((List Int) × Int × Int) :=
  (ref18_Valid N b_Data b_N).bind fun x12 =>
  if !x12 then
    some ([], 0, 6)
  else
    if decide (vn < 0) then
      ref18_Append_J1 N b_Data b_N v vn true
    else
      ref18_Append_J1 N b_Data b_N v vn (decide (64 < vn))
def ref01_Same (N : Nat) (va : List Int) (b : List Int) : Option Bool :=
  some ((strOf va).toList == (strOf b).toList)
def ref18_Same_J1 (N : Nat) (x4 : Bool) : Option Bool :=
  some x4
def ref18_Same (N : Nat) (a_Data : List Int) (a_N : Int) (b_Data : List Int) (b_N : Int) : Option Bool :=
  if a_N == b_N then
    (ref01_Same N a_Data b_Data).bind fun x15 =>
    ref18_Same_J1 N x15
  else
    ref18_Same_J1 N false
def law18_BitsAppends_J1 (N : Nat) (x6 : Bool) : Option Bool :=
  some x6
def law18_BitsAppends (N : Nat) (b_Data : List Int) (b_N : Int) (v : Int) (vn : Int) : Option Bool :=
  (law18_sane N).bind fun x11 =>
  if !x11 then
    some false
  else
    (law18_kept N b_Data b_N).bind fun x14 =>
    if !x14 then
      some true
    else
      (bits_Append N b_Data b_N v vn).bind fun x20 =>
      (ref18_Append N b_Data b_N v vn).bind fun x27 =>
      (bits_Valid N b_Data b_N).bind fun x31 =>
      (ref18_Valid N b_Data b_N).bind fun x33 =>
      if x31 == x33 then
        if x20.2.2 == x27.2.2 then
          (ref18_Same N x20.1 x20.2.1 x27.1 x27.2.1).bind fun x43 =>
          law18_BitsAppends_J1 N x43
        else
          law18_BitsAppends_J1 N false
      else
        law18_BitsAppends_J1 N false
def ref18_AppendRice_J5 (N : Nat) (c1_1 : Int) (l2_2 : List Int) : Option ((List Int) × Int × Int) :=
  some (l2_2, c1_1, 0)
def ref18_AppendRice_L6 (N : Nat) (v : Int) : Nat → Int → Int → (List Int) → Option (Int × (List Int))
  | 0, _, _, _ => none
  | m + 1, vi, c1_2, l2_3 =>
    if decide (0 ≤ vi) then
      (shr .u64 v vi).bind fun x70 =>
      (ref18_put N l2_3 c1_2 ((bits .and .u64 x70 1) == 1)).bind fun x73 =>
      (ref18_AppendRice_L6 N v m) (IntKind.i64.wrap (vi - 1)) x73.2 x73.1
    else
      some (c1_2, l2_3)
def ref18_AppendRice_J4 (N : Nat) (v : Int) (p : Int) (c1 : Int) (l2_1 : List Int) : Option ((List Int) × Int × Int) :=
  (ref18_put N l2_1 c1 false).bind fun x60 =>
  (ref18_AppendRice_L6 N v N (IntKind.i64.wrap (p - 1)) x60.2 x60.1).bind fun p6 =>
  ref18_AppendRice_J5 N p6.1 p6.2
def ref18_AppendRice_L7 (N : Nat) (v : Int) (p : Int) : Nat → Int → Int → (List Int) → Option (Int × (List Int))
  | 0, _, _, _ => none
  | m + 1, k, c1_3, l2_4 =>
    if decide (0 < k) then
      (ref18_put N l2_4 c1_3 true).bind fun x58 =>
      (ref18_AppendRice_L7 N v p m) (IntKind.u64.wrap (k - 1)) x58.2 x58.1
    else
      some (c1_3, l2_4)
def ref18_AppendRice_J3 (N : Nat) (b_N : Int) (v : Int) (p : Int) (l2 : List Int) : Option ((List Int) × Int × Int) :=
  (shr .u64 v p).bind fun x52 =>
  (ref18_AppendRice_L7 N v p N x52 b_N l2).bind fun p7 =>
  ref18_AppendRice_J4 N v p p7.1 p7.2
def ref18_AppendRice_J2 (N : Nat) (b_Data : List Int) (b_N : Int) (v : Int) (p : Int) (x24 : Bool) : Option ((List Int) × Int × Int) :=
  if x24 then
    some ([], 0, 4)
  else
    (ref01_Join N [b_Data]).bind fun x46 =>
    ref18_AppendRice_J3 N b_N v p x46
def ref18_AppendRice_J1 (N : Nat) (b_Data : List Int) (b_N : Int) (v : Int) (p : Int) (x16 : Bool) : Option ((List Int) × Int × Int) :=
  if x16 then
    some ([], 0, 5)
  else
    (shr .u64 v p).bind fun x27 =>
    if decide (65536 < x27) then
      ref18_AppendRice_J2 N b_Data b_N v p true
    else
      ref18_AppendRice_J2 N b_Data b_N v p (decide (1600000 < (IntKind.i64.wrap ((IntKind.i64.wrap ((IntKind.i64.wrap (b_N + (IntKind.i64.wrap x27))) + 1)) + p))))
def ref18_AppendRice (N : Nat) (b_Data : List Int) (b_N : Int) (v : Int) (p : Int) : Option ((List Int) × Int × Int) :=
  (ref18_Valid N b_Data b_N).bind fun x13 =>
  if !x13 then
    some ([], 0, 6)
  else
    if decide (p < 0) then
      ref18_AppendRice_J1 N b_Data b_N v p true
    else
      ref18_AppendRice_J1 N b_Data b_N v p (decide (32 < p))
def law18_BitsRice_J1 (N : Nat) (x6 : Bool) : Option Bool :=
  some x6
def law18_BitsRice (N : Nat) (b_Data : List Int) (b_N : Int) (v : Int) (p : Int) : Option Bool :=
  (law18_sane N).bind fun x11 =>
  if !x11 then
    some false
  else
    (law18_kept N b_Data b_N).bind fun x14 =>
    if !x14 then
      some true
    else
      (bits_AppendRice N b_Data b_N v p).bind fun x20 =>
      (ref18_AppendRice N b_Data b_N v p).bind fun x27 =>
      if x20.2.2 == x27.2.2 then
        (ref18_Same N x20.1 x20.2.1 x27.1 x27.2.1).bind fun x36 =>
        law18_BitsRice_J1 N x36
      else
        law18_BitsRice_J1 N false
def bits_bit (N : Nat) (b_Data : List Int) (b_N : Int) (vi : Int) : Option Bool :=
  (idx b_Data (IntKind.i64.wrap (Int.tdiv vi 8))).bind fun x9 =>
  (shr .u8 128 (Int.tmod vi 8)).bind fun x13 =>
  some ((bits .and .u8 x9 x13) != 0)
def bits_number_J1 (N : Nat) (v : Int) : Option Int :=
  some v
def bits_number_J3 (N : Nat) (b_Data : List Int) (b_N : Int) (vat : Int) (vn : Int) (x10 : Int) (rec : Int → Int → Option Int) (v_2 : Int) : Option Int :=
  rec v_2 (IntKind.i64.wrap (x10 + 1))
def bits_number_L2 (N : Nat) (b_Data : List Int) (b_N : Int) (vat : Int) (vn : Int) : Nat → Int → Int → Option Int
  | 0, _, _ => none
  | m + 1, v_1, x10 =>
    if decide (x10 < vn) then
      (shl .u64 v_1 1).bind fun x14 =>
      (bits_bit N b_Data b_N (IntKind.i64.wrap (vat + x10))).bind fun x19 =>
      if x19 then
        bits_number_J3 N b_Data b_N vat vn x10 (bits_number_L2 N b_Data b_N vat vn m) (bits .or .u64 x14 1)
      else
        bits_number_J3 N b_Data b_N vat vn x10 (bits_number_L2 N b_Data b_N vat vn m) x14
    else
      some v_1
def bits_number (N : Nat) (b_Data : List Int) (b_N : Int) (vat : Int) (vn : Int) : Option Int :=
  (bits_number_L2 N b_Data b_N vat vn N 0 0).bind fun p2 =>
  bits_number_J1 N p2
def bits_Read_J1 (N : Nat) (b_Data : List Int) (b_N : Int) (vat : Int) (vn : Int) (x27 : Bool) : Option (Int × Int × Int) :=
  if x27 then
    some (0, 0, 5)
  else
    if decide ((IntKind.i64.wrap (b_N - vat)) < vn) then
      some (0, 0, 1)
    else
      (bits_number N b_Data b_N vat vn).bind fun x37 =>
      some (x37, IntKind.i64.wrap (vat + vn), 0)
def bits_Read (N : Nat) (b_Data : List Int) (b_N : Int) (vat : Int) (vn : Int) : Option (Int × Int × Int) :=
  (bits_Valid N b_Data b_N).bind fun x10 =>
  if !x10 then
    some (0, 0, 6)
  else
    if decide (vn < 0) then
      bits_Read_J1 N b_Data b_N vat vn true
    else
      if decide (64 < vn) then
        bits_Read_J1 N b_Data b_N vat vn true
      else
        if decide (vat < 0) then
          bits_Read_J1 N b_Data b_N vat vn true
        else
          bits_Read_J1 N b_Data b_N vat vn (decide (b_N < vat))
def ref18_number_J1 (N : Nat) (v : Int) : Option Int :=
  some v
def ref18_number_J3 (N : Nat) (b_Data : List Int) (b_N : Int) (vat : Int) (vn : Int) (vi : Int) (rec : Int → Int → Option Int) (v_2 : Int) : Option Int :=
  rec v_2 (IntKind.i64.wrap (vi + 1))
def ref18_number_L2 (N : Nat) (b_Data : List Int) (b_N : Int) (vat : Int) (vn : Int) : Nat → Int → Int → Option Int
  | 0, _, _ => none
  | m + 1, v_1, vi =>
    if decide (vi < (IntKind.i64.wrap (vat + vn))) then
      (ref18_bit N b_Data b_N vi).bind fun x21 =>
      if x21 then
        ref18_number_J3 N b_Data b_N vat vn vi (ref18_number_L2 N b_Data b_N vat vn m) (IntKind.u64.wrap ((IntKind.u64.wrap (v_1 * 2)) + 1))
      else
        ref18_number_J3 N b_Data b_N vat vn vi (ref18_number_L2 N b_Data b_N vat vn m) (IntKind.u64.wrap (v_1 * 2))
    else
      some v_1
def ref18_number (N : Nat) (b_Data : List Int) (b_N : Int) (vat : Int) (vn : Int) : Option Int :=
  (ref18_number_L2 N b_Data b_N vat vn N 0 vat).bind fun p2 =>
  ref18_number_J1 N p2
def ref18_Read_J1 (N : Nat) (b_Data : List Int) (b_N : Int) (vat : Int) (vn : Int) (x13 : Bool) : Option (Int × Int × Int) :=
  if x13 then
    some (0, 0, 5)
  else
    if decide ((IntKind.i64.wrap (b_N - vat)) < vn) then
      some (0, 0, 1)
    else
      (ref18_number N b_Data b_N vat vn).bind fun x40 =>
      some (x40, IntKind.i64.wrap (vat + vn), 0)
def ref18_Read (N : Nat) (b_Data : List Int) (b_N : Int) (vat : Int) (vn : Int) : Option (Int × Int × Int) :=
  (ref18_Valid N b_Data b_N).bind fun x11 =>
  if !x11 then
    some (0, 0, 6)
  else
    if decide (vn < 0) then
      ref18_Read_J1 N b_Data b_N vat vn true
    else
      if decide (64 < vn) then
        ref18_Read_J1 N b_Data b_N vat vn true
      else
        if decide (vat < 0) then
          ref18_Read_J1 N b_Data b_N vat vn true
        else
          ref18_Read_J1 N b_Data b_N vat vn (decide (b_N < vat))
def law18_BitsReads_J1 (N : Nat) (x6 : Bool) : Option Bool :=
  some x6
def law18_BitsReads (N : Nat) (b_Data : List Int) (b_N : Int) (vat : Int) (vn : Int) : Option Bool :=
  (law18_sane N).bind fun x13 =>
  if !x13 then
    some false
  else
    (law18_kept N b_Data b_N).bind fun x16 =>
    if !x16 then
      some true
    else
      (bits_Read N b_Data b_N vat vn).bind fun x22 =>
      (ref18_Read N b_Data b_N vat vn).bind fun x30 =>
      if x22.1 == x30.1 then
        if x22.2.1 == x30.2.1 then
          law18_BitsReads_J1 N (x22.2.2 == x30.2.2)
        else
          law18_BitsReads_J1 N false
      else
        law18_BitsReads_J1 N false
def law18_BitsBack_J4 (N : Nat) : Option Bool :=
  some true
def law18_BitsBack_J6 (N : Nat) (b_Data : List Int) (b_N : Int) (x38 : (List Int) × Int × Int) (vat : Int) (rec : Int → Option (LR (Unit) (Bool))) (x125 : Bool) : Option (LR (Unit) (Bool)) :=
  if x125 then
    some (.ret false)
  else
    rec (IntKind.i64.wrap (vat + 32))
def law18_BitsBack_L5 (N : Nat) (b_Data : List Int) (b_N : Int) (x38 : (List Int) × Int × Int) : Nat → Int → Option (LR (Unit) (Bool))
  | 0, _ => none
  | m + 1, vat =>
    if decide (vat < b_N) then
      (bits_Read N b_Data b_N vat (if (IntKind.i64.wrap (b_N - vat)) < 32 then (IntKind.i64.wrap (b_N - vat)) else 32)).bind fun x103 =>
      (bits_Read N x38.1 x38.2.1 vat (if (IntKind.i64.wrap (b_N - vat)) < 32 then (IntKind.i64.wrap (b_N - vat)) else 32)).bind fun x111 =>
      if x103.2.2 != 0 then
        law18_BitsBack_J6 N b_Data b_N x38 vat (law18_BitsBack_L5 N b_Data b_N x38 m) true
      else
        if x111.2.2 != 0 then
          law18_BitsBack_J6 N b_Data b_N x38 vat (law18_BitsBack_L5 N b_Data b_N x38 m) true
        else
          law18_BitsBack_J6 N b_Data b_N x38 vat (law18_BitsBack_L5 N b_Data b_N x38 m) (x103.1 != x111.1)
    else
      some (.brk ())
def law18_BitsBack_J3 (N : Nat) (b_Data : List Int) (b_N : Int) (x38 : (List Int) × Int × Int) (x87 : Bool) : Option Bool :=
  if x87 then
    some false
  else
    (law18_BitsBack_L5 N b_Data b_N x38 N 0).bind fun q => match q with
      | .ret v => some v
      | .brk p5 =>
        law18_BitsBack_J4 N
def law18_BitsBack_J2 (N : Nat) (b_Data : List Int) (b_N : Int) (vn : Int) (x38 : (List Int) × Int × Int) (x46 : Int × Int × Int) (v_1 : Int) : Option Bool :=
  if x38.2.2 != 0 then
    law18_BitsBack_J3 N b_Data b_N x38 true
  else
    if x46.2.2 != 0 then
      law18_BitsBack_J3 N b_Data b_N x38 true
    else
      if x46.1 != v_1 then
        law18_BitsBack_J3 N b_Data b_N x38 true
      else
        if x46.2.1 != x38.2.1 then
          law18_BitsBack_J3 N b_Data b_N x38 true
        else
          if x38.2.1 != (IntKind.i64.wrap (b_N + (IntKind.i64.wrap (Int.tmod vn 65)))) then
            law18_BitsBack_J3 N b_Data b_N x38 true
          else
            (bits_Valid N x38.1 x38.2.1).bind fun x85 =>
            law18_BitsBack_J3 N b_Data b_N x38 (!x85)
def law18_BitsBack_J1 (N : Nat) (b_Data : List Int) (b_N : Int) (v : Int) (vn : Int) (x33 : Bool) : Option Bool :=
  if x33 then
    some true
  else
    (bits_Append N b_Data b_N v (IntKind.i64.wrap (Int.tmod vn 65))).bind fun x38 =>
    (bits_Read N x38.1 x38.2.1 b_N (IntKind.i64.wrap (Int.tmod vn 65))).bind fun x46 =>
    if decide ((IntKind.i64.wrap (Int.tmod vn 65)) < 64) then
      (shl .u64 1 (IntKind.i64.wrap (Int.tmod vn 65))).bind fun x54 =>
      law18_BitsBack_J2 N b_Data b_N vn x38 x46 (bits .and .u64 v (IntKind.u64.wrap (x54 - 1)))
    else
      law18_BitsBack_J2 N b_Data b_N vn x38 x46 v
def law18_BitsBack (N : Nat) (b_Data : List Int) (b_N : Int) (v : Int) (vn : Int) : Option Bool :=
  (law18_sane N).bind fun x21 =>
  if !x21 then
    some false
  else
    (law18_kept N b_Data b_N).bind fun x27 =>
    if !x27 then
      law18_BitsBack_J1 N b_Data b_N v vn true
    else
      (bits_Valid N b_Data b_N).bind fun x31 =>
      law18_BitsBack_J1 N b_Data b_N v vn (!x31)
def bits_ReadRice_J2 (N : Nat) (b_Data : List Int) (b_N : Int) (vat : Int) (p : Int) (vend : Int) : Option (Int × Int × Int) :=
  if decide ((IntKind.i64.wrap (b_N - vend)) < (IntKind.i64.wrap (1 + p))) then
    some (0, 0, 1)
  else
    (shl .u64 (IntKind.u64.wrap (IntKind.i64.wrap (vend - vat))) p).bind fun x58 =>
    (bits_number N b_Data b_N (IntKind.i64.wrap (vend + 1)) p).bind fun x63 =>
    some (bits .or .u64 x58 x63, IntKind.i64.wrap ((IntKind.i64.wrap (vend + 1)) + p), 0)
def bits_ReadRice_J4 (N : Nat) (b_Data : List Int) (b_N : Int) (vat : Int) (p : Int) (vend_1 : Int) (rec : Int → Option (LR (Int) (Int × Int × Int))) (x39 : Bool) : Option (LR (Int) (Int × Int × Int)) :=
  if x39 then
    if decide (65536 < (IntKind.i64.wrap ((IntKind.i64.wrap (vend_1 + 1)) - vat))) then
      some (.ret (0, 0, 4))
    else
      rec (IntKind.i64.wrap (vend_1 + 1))
  else
    some (.brk vend_1)
def bits_ReadRice_L3 (N : Nat) (b_Data : List Int) (b_N : Int) (vat : Int) (p : Int) : Nat → Int → Option (LR (Int) (Int × Int × Int))
  | 0, _ => none
  | m + 1, vend_1 =>
    if decide (vend_1 < b_N) then
      (bits_bit N b_Data b_N vend_1).bind fun x38 =>
      bits_ReadRice_J4 N b_Data b_N vat p vend_1 (bits_ReadRice_L3 N b_Data b_N vat p m) x38
    else
      bits_ReadRice_J4 N b_Data b_N vat p vend_1 (bits_ReadRice_L3 N b_Data b_N vat p m) false
def bits_ReadRice_J1 (N : Nat) (b_Data : List Int) (b_N : Int) (vat : Int) (p : Int) (x29 : Bool) : Option (Int × Int × Int) :=
  if x29 then
    some (0, 0, 5)
  else
    (bits_ReadRice_L3 N b_Data b_N vat p N vat).bind fun q => match q with
      | .ret v => some v
      | .brk p3 =>
        bits_ReadRice_J2 N b_Data b_N vat p p3
def bits_ReadRice (N : Nat) (b_Data : List Int) (b_N : Int) (vat : Int) (p : Int) : Option (Int × Int × Int) :=
  (bits_Valid N b_Data b_N).bind fun x12 =>
  if !x12 then
    some (0, 0, 6)
  else
    if decide (p < 0) then
      bits_ReadRice_J1 N b_Data b_N vat p true
    else
      if decide (32 < p) then
        bits_ReadRice_J1 N b_Data b_N vat p true
      else
        if decide (vat < 0) then
          bits_ReadRice_J1 N b_Data b_N vat p true
        else
          bits_ReadRice_J1 N b_Data b_N vat p (decide (b_N < vat))
def ref18_ReadRice_J2 (N : Nat) (b_Data : List Int) (b_N : Int) (vat : Int) (p : Int) (k : Int) : Option (Int × Int × Int) :=
  if decide ((IntKind.i64.wrap ((IntKind.i64.wrap (b_N - vat)) - k)) < (IntKind.i64.wrap (1 + p))) then
    some (0, 0, 1)
  else
    (shl .u64 (IntKind.u64.wrap k) p).bind fun x58 =>
    (ref18_number N b_Data b_N (IntKind.i64.wrap ((IntKind.i64.wrap (vat + k)) + 1)) p).bind fun x65 =>
    some (bits .or .u64 x58 x65, IntKind.i64.wrap ((IntKind.i64.wrap ((IntKind.i64.wrap (vat + k)) + 1)) + p), 0)
def ref18_ReadRice_J4 (N : Nat) (b_Data : List Int) (b_N : Int) (vat : Int) (p : Int) (k_1 : Int) (rec : Int → Option (LR (Int) (Int × Int × Int))) (x41 : Bool) : Option (LR (Int) (Int × Int × Int)) :=
  if x41 then
    if decide (65536 < (IntKind.i64.wrap (k_1 + 1))) then
      some (.ret (0, 0, 4))
    else
      rec (IntKind.i64.wrap (k_1 + 1))
  else
    some (.brk k_1)
def ref18_ReadRice_L3 (N : Nat) (b_Data : List Int) (b_N : Int) (vat : Int) (p : Int) : Nat → Int → Option (LR (Int) (Int × Int × Int))
  | 0, _ => none
  | m + 1, k_1 =>
    if decide ((IntKind.i64.wrap (vat + k_1)) < b_N) then
      (ref18_bit N b_Data b_N (IntKind.i64.wrap (vat + k_1))).bind fun x40 =>
      ref18_ReadRice_J4 N b_Data b_N vat p k_1 (ref18_ReadRice_L3 N b_Data b_N vat p m) x40
    else
      ref18_ReadRice_J4 N b_Data b_N vat p k_1 (ref18_ReadRice_L3 N b_Data b_N vat p m) false
def ref18_ReadRice_J1 (N : Nat) (b_Data : List Int) (b_N : Int) (vat : Int) (p : Int) (x28 : Bool) : Option (Int × Int × Int) :=
  if x28 then
    some (0, 0, 5)
  else
    (ref18_ReadRice_L3 N b_Data b_N vat p N 0).bind fun q => match q with
      | .ret v => some v
      | .brk p3 =>
        ref18_ReadRice_J2 N b_Data b_N vat p p3
def ref18_ReadRice (N : Nat) (b_Data : List Int) (b_N : Int) (vat : Int) (p : Int) : Option (Int × Int × Int) :=
  (ref18_Valid N b_Data b_N).bind fun x11 =>
  if !x11 then
    some (0, 0, 6)
  else
    if decide (p < 0) then
      ref18_ReadRice_J1 N b_Data b_N vat p true
    else
      if decide (32 < p) then
        ref18_ReadRice_J1 N b_Data b_N vat p true
      else
        if decide (vat < 0) then
          ref18_ReadRice_J1 N b_Data b_N vat p true
        else
          ref18_ReadRice_J1 N b_Data b_N vat p (decide (b_N < vat))
def law18_BitsReadsRice_J1 (N : Nat) (x6 : Bool) : Option Bool :=
  some x6
def law18_BitsReadsRice (N : Nat) (b_Data : List Int) (b_N : Int) (vat : Int) (p : Int) : Option Bool :=
  (law18_sane N).bind fun x13 =>
  if !x13 then
    some false
  else
    (law18_kept N b_Data b_N).bind fun x16 =>
    if !x16 then
      some true
    else
      (bits_ReadRice N b_Data b_N vat p).bind fun x22 =>
      (ref18_ReadRice N b_Data b_N vat p).bind fun x30 =>
      if x22.1 == x30.1 then
        if x22.2.1 == x30.2.1 then
          law18_BitsReadsRice_J1 N (x22.2.2 == x30.2.2)
        else
          law18_BitsReadsRice_J1 N false
      else
        law18_BitsReadsRice_J1 N false
def law18_BitsRiceBack_J3 (N : Nat) (x4 : Bool) : Option Bool :=
  some x4
def law18_BitsRiceBack_J2 (N : Nat) (c0 : Int) (l1 : List Int) (vat : Int) : Option Bool :=
  if vat == c0 then
    (bits_Valid N l1 c0).bind fun x92 =>
    law18_BitsRiceBack_J3 N x92
  else
    law18_BitsRiceBack_J3 N false
def law18_BitsRiceBack_J5 (N : Nat) (l : List Int) (p : Int) (c0 : Int) (l1 : List Int) (x63 : Int) (x71 : Int × Int × Int) (rec : Int → Int → Option (LR (Int) (Bool))) (x83 : Bool) : Option (LR (Int) (Bool)) :=
  if x83 then
    some (.ret false)
  else
    rec x71.2.1 (IntKind.i64.wrap (x63 + 1))
def law18_BitsRiceBack_L4 (N : Nat) (l : List Int) (p : Int) (c0 : Int) (l1 : List Int) : Nat → Int → Int → Option (LR (Int) (Bool))
  | 0, _, _ => none
  | m + 1, vat_1, x63 =>
    if decide (x63 < (l.length : Int)) then
      (idx l x63).bind fun x65 =>
      (bits_ReadRice N l1 c0 vat_1 (IntKind.i64.wrap (Int.tmod p 33))).bind fun x71 =>
      if x71.2.2 != 0 then
        law18_BitsRiceBack_J5 N l p c0 l1 x63 x71 (law18_BitsRiceBack_L4 N l p c0 l1 m) true
      else
        law18_BitsRiceBack_J5 N l p c0 l1 x63 x71 (law18_BitsRiceBack_L4 N l p c0 l1 m) (x71.1 != (Int.tmod (IntKind.u64.wrap x65) 4000))
    else
      some (.brk vat_1)
def law18_BitsRiceBack_J1 (N : Nat) (l : List Int) (p : Int) (c0 : Int) (l1 : List Int) : Option Bool :=
  (law18_BitsRiceBack_L4 N l p c0 l1 N 0 0).bind fun q => match q with
    | .ret v => some v
    | .brk p4 =>
      law18_BitsRiceBack_J2 N c0 l1 p4
def law18_BitsRiceBack_J7 (N : Nat) (l : List Int) (p : Int) (x27 : Int) (c0_1 : Int) (l1_1 : List Int) (x37 : (List Int) × Int × Int) (rec : Int → Int → (List Int) → Option (LR (Int × (List Int)) (Bool))) (x58 : Bool) : Option (LR (Int × (List Int)) (Bool)) :=
  if x58 then
    some (.ret false)
  else
    rec (IntKind.i64.wrap (x27 + 1)) x37.2.1 x37.1
def law18_BitsRiceBack_L6 (N : Nat) (l : List Int) (p : Int) : Nat → Int → Int → (List Int) → Option (LR (Int × (List Int)) (Bool))
  | 0, _, _, _ => none
  | m + 1, x27, c0_1, l1_1 =>
    if decide (x27 < (l.length : Int)) then
      (idx l x27).bind fun x29 =>
      (bits_AppendRice N l1_1 c0_1 (Int.tmod (IntKind.u64.wrap x29) 4000) (IntKind.i64.wrap (Int.tmod p 33))).bind fun x37 =>
      if x37.2.2 != 0 then
        law18_BitsRiceBack_J7 N l p x27 c0_1 l1_1 x37 (law18_BitsRiceBack_L6 N l p m) true
      else
        (shr .u64 (Int.tmod (IntKind.u64.wrap x29) 4000) (IntKind.i64.wrap (Int.tmod p 33))).bind fun x51 =>
        law18_BitsRiceBack_J7 N l p x27 c0_1 l1_1 x37 (law18_BitsRiceBack_L6 N l p m) (x37.2.1 != (IntKind.i64.wrap ((IntKind.i64.wrap ((IntKind.i64.wrap (c0_1 + (IntKind.i64.wrap x51))) + 1)) + (IntKind.i64.wrap (Int.tmod p 33)))))
    else
      some (.brk (c0_1, l1_1))
def law18_BitsRiceBack (N : Nat) (l : List Int) (p : Int) : Option Bool :=
  (law18_sane N).bind fun x17 =>
  if !x17 then
    some false
  else
    if decide (40 < (l.length : Int)) then
      some true
    else
      (law18_BitsRiceBack_L6 N l p N 0 0 []).bind fun q => match q with
        | .ret v => some v
        | .brk p6 =>
          law18_BitsRiceBack_J1 N l p p6.1 p6.2
def law18_BitsCodes_J2 (N : Nat) (x6 : Bool) : Option Bool :=
  some x6
def law18_BitsCodes_J4 (N : Nat) : Option Bool :=
  some true
def law18_BitsCodes_J6 (N : Nat) (b_Data : List Int) (b_N : Int) (vat : Int) (x54 : (List Int) × Int × Int) (vi : Int) (rec : Int → Option (LR (Unit) (Bool))) (x101 : Bool) : Option (LR (Unit) (Bool)) :=
  if x101 then
    some (.ret false)
  else
    rec (IntKind.i64.wrap (vi + 1))
def law18_BitsCodes_L5 (N : Nat) (b_Data : List Int) (b_N : Int) (vat : Int) (x54 : (List Int) × Int × Int) : Nat → Int → Option (LR (Unit) (Bool))
  | 0, _ => none
  | m + 1, vi =>
    if decide (vi < x54.2.1) then
      (bits_Read N b_Data b_N (IntKind.i64.wrap ((IntKind.i64.wrap vat) + vi)) 1).bind fun x80 =>
      (bits_Read N x54.1 x54.2.1 vi 1).bind fun x87 =>
      if x80.2.2 != 0 then
        law18_BitsCodes_J6 N b_Data b_N vat x54 vi (law18_BitsCodes_L5 N b_Data b_N vat x54 m) true
      else
        if x87.2.2 != 0 then
          law18_BitsCodes_J6 N b_Data b_N vat x54 vi (law18_BitsCodes_L5 N b_Data b_N vat x54 m) true
        else
          law18_BitsCodes_J6 N b_Data b_N vat x54 vi (law18_BitsCodes_L5 N b_Data b_N vat x54 m) (x80.1 != x87.1)
    else
      some (.brk ())
def law18_BitsCodes_J3 (N : Nat) (b_Data : List Int) (b_N : Int) (vat : Int) (x54 : (List Int) × Int × Int) (x67 : Bool) : Option Bool :=
  if x67 then
    some false
  else
    (law18_BitsCodes_L5 N b_Data b_N vat x54 N 0).bind fun q => match q with
      | .ret v => some v
      | .brk p5 =>
        law18_BitsCodes_J4 N
def law18_BitsCodes_J1 (N : Nat) (b_Data : List Int) (b_N : Int) (vat : Int) (p : Int) (x29 : Bool) : Option Bool :=
  if x29 then
    some true
  else
    (bits_ReadRice N b_Data b_N (IntKind.i64.wrap vat) (IntKind.i64.wrap (Int.tmod p 33))).bind fun x38 =>
    if x38.2.2 != 0 then
      if x38.1 == 0 then
        law18_BitsCodes_J2 N (x38.2.1 == 0)
      else
        law18_BitsCodes_J2 N false
    else
      (bits_AppendRice N [] 0 x38.1 (IntKind.i64.wrap (Int.tmod p 33))).bind fun x54 =>
      if x54.2.2 != 0 then
        law18_BitsCodes_J3 N b_Data b_N vat x54 true
      else
        law18_BitsCodes_J3 N b_Data b_N vat x54 (x38.2.1 != (IntKind.i64.wrap ((IntKind.i64.wrap vat) + x54.2.1)))
def law18_BitsCodes (N : Nat) (b_Data : List Int) (b_N : Int) (vat : Int) (p : Int) : Option Bool :=
  (law18_sane N).bind fun x20 =>
  if !x20 then
    some false
  else
    (law18_kept N b_Data b_N).bind fun x23 =>
    if !x23 then
      law18_BitsCodes_J1 N b_Data b_N vat p true
    else
      (bits_Valid N b_Data b_N).bind fun x27 =>
      law18_BitsCodes_J1 N b_Data b_N vat p (!x27)
end Go.Proofs.Ytbcmdojknonpgaa
