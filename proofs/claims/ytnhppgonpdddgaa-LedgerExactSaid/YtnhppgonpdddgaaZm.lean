/- Plain functions that mirror functions of the given program. Conditions: none. -/
import Derived.Test.YtnhppgonpdddgaaZs
import Derived.Test.YtnhppgonpdddgaaZh
set_option linter.unusedSimpArgs false
set_option linter.unusedVariables false
namespace Go.Vl
open Go
noncomputable def make_Tape_Next (a0 : make_Tape) (a1 : Int) : Option (Int × make_Tape) :=
  if (decide (((a0.L).length : Int) ≤ a0.at_)) = true then
    some (0, a0)
  else
  (idx a0.L a0.at_).bind fun x1 =>
  (ck (a1 ≠ 0)).bind fun _ =>
  some (((bAnd .i64 x1 65535)).tmod a1, (⟨a0.L, IntKind.i64.wrap (a0.at_ + 1)⟩ : make_Tape))
noncomputable def make_Bytes_j1 (y3 : Int × make_Tape) (s2 : Int × (List Int) × Int × (List Int)) (v7 : Bool) : Option (Lp (Int × (List Int) × Int × (List Int)) ((List Int) × Int × (List Int))) :=
  if v7 = true then
    (make_Tape_Next y3.2 10).bind fun y8 =>
    (ck ((s2.2.2.2).length + ([IntKind.u8.wrap (IntKind.i64.wrap (48 + y8.1))]).length ≤ 268435456)).bind fun _ =>
    some (.go (IntKind.i64.wrap (s2.1 + 1), y8.2.L, y8.2.at_, (s2.2.2.2 ++ [IntKind.u8.wrap (IntKind.i64.wrap (48 + y8.1))])))
  else
  (make_Tape_Next y3.2 8).bind fun y9 =>
  (sidx (⟨#[97, 98, 99, 100, 101, 102, 116, 107]⟩ : ByteArray) y9.1).bind fun x10 =>
  (ck ((s2.2.2.2).length + ([x10]).length ≤ 268435456)).bind fun _ =>
  some (.go (IntKind.i64.wrap (s2.1 + 1), y9.2.L, y9.2.at_, (s2.2.2.2 ++ [x10])))
noncomputable def make_Bytes_l0 (a1 : Int) (s2 : Int × (List Int) × Int × (List Int)) : Option (Lp (Int × (List Int) × Int × (List Int)) ((List Int) × Int × (List Int))) :=
  if (decide (s2.1 < a1)) = true then
    (make_Tape_Next (⟨s2.2.1, s2.2.2.1⟩ : make_Tape) 8).bind fun y3 =>
    if (y3.1 == 0) = true then
      (make_Tape_Next y3.2 8).bind fun y4 =>
      (sidx (⟨#[32, 10, 61, 37, 43, 47, 45, 46]⟩ : ByteArray) y4.1).bind fun x5 =>
      (ck ((s2.2.2.2).length + ([x5]).length ≤ 268435456)).bind fun _ =>
      some (.go (IntKind.i64.wrap (s2.1 + 1), y4.2.L, y4.2.at_, (s2.2.2.2 ++ [x5])))
    else
    if (y3.1 == 1) = true then
      (make_Tape_Next y3.2 256).bind fun y6 =>
      (ck ((s2.2.2.2).length + ([IntKind.u8.wrap y6.1]).length ≤ 268435456)).bind fun _ =>
      some (.go (IntKind.i64.wrap (s2.1 + 1), y6.2.L, y6.2.at_, (s2.2.2.2 ++ [IntKind.u8.wrap y6.1])))
    else
    if (y3.1 == 2) = true then
      make_Bytes_j1 y3 s2 (y3.1 == 2)
    else
      make_Bytes_j1 y3 s2 (y3.1 == 3)
  else
    some (.out (s2.2.1, s2.2.2.1, s2.2.2.2))
noncomputable def make_Bytes (a0 : make_Tape) (a1 : Int) : Option ((List Int) × make_Tape) :=
  (iter (make_Bytes_l0 a1) (0, a0.L, a0.at_, [])).bind fun v1 =>
  some (v1.2.2, (⟨v1.1, v1.2.1⟩ : make_Tape))
noncomputable def entropy_Counts_l0 (a0 : List Int) (s2 : Int × (List Int)) : Option (Lp (Int × (List Int)) (List Int)) :=
  if (decide (s2.1 < ((a0).length : Int))) = true then
    (idx a0 s2.1).bind fun x3 =>
    (ck (0 ≤ x3 ∧ x3 < 256)).bind fun _ =>
    (idx s2.2 x3).bind fun x4 =>
    (ck (0 ≤ x3 ∧ x3 < 256)).bind fun _ =>
    (ck ((Int.toNat x3) < (s2.2).length)).bind fun _ =>
    some (.go (IntKind.i64.wrap (s2.1 + 1), (s2.2.set (Int.toNat x3) (IntKind.i64.wrap (x4 + 1)))))
  else
    some (.out s2.2)
noncomputable def entropy_Counts (a0 : List Int) : Option ((List Int)) :=
  if (decide (65536 < ((a0).length : Int))) = true then
    some (zerosI 256)
  else
  (iter (entropy_Counts_l0 a0) (0, (zerosI 256))).bind fun v1 =>
  (ck ((v1).length = 256)).bind fun _ =>
  (ck ((v1).length = 256)).bind fun _ =>
  (ck ((v1).length = 256)).bind fun _ =>
  some v1
noncomputable def math_bits_Len (a0 : Int) : Option (Int) :=
  (math_bits_Len64 a0).bind fun y1 =>
  some y1
noncomputable def entropy_Log_l0  (s4 : Int × Int × Int) : Option (Lp (Int × Int × Int) Int) :=
  if (decide (s4.2.2 < 16)) = true then
    if (decide (2147483648 ≤ (IntKind.i64.wrap (((IntKind.i64.wrap (s4.2.1 * s4.2.1))).tdiv 1073741824)))) = true then
      some (.go (IntKind.i64.wrap ((IntKind.i64.wrap (s4.1 * 2)) + 1), IntKind.i64.wrap (((IntKind.i64.wrap (((IntKind.i64.wrap (s4.2.1 * s4.2.1))).tdiv 1073741824))).tdiv 2), IntKind.i64.wrap (s4.2.2 + 1)))
    else
      some (.go (IntKind.i64.wrap (s4.1 * 2), IntKind.i64.wrap (((IntKind.i64.wrap (s4.2.1 * s4.2.1))).tdiv 1073741824), IntKind.i64.wrap (s4.2.2 + 1)))
  else
    some (.out s4.1)
noncomputable def entropy_Log (a0 : Int) : Option (Int) :=
  (some ((decide (a0 < 1)) || (decide (1073741824 < a0)))).bind fun v1 =>
  if v1 = true then
    some 0
  else
  (math_bits_Len (IntKind.u64.wrap a0)).bind fun y2 =>
  (ck (¬ (IntKind.i64.wrap (30 - (IntKind.i64.wrap (y2 - 1)))) < 0)).bind fun _ =>
  (iter (entropy_Log_l0) (IntKind.i64.wrap (y2 - 1), IntKind.i64.wrap (a0 * 2 ^ (min (Int.toNat (IntKind.i64.wrap (30 - (IntKind.i64.wrap (y2 - 1))))) IntKind.i64.bits)), 0)).bind fun v3 =>
  some v3
noncomputable def entropy_Measure_l0 (y1 : (List Int)) (a0 : List Int) (s3 : Int × Int) : Option (Lp (Int × Int) Int) :=
  if (decide (s3.2 < 256)) = true then
    (ck (s3.2 < 256)).bind fun _ =>
    (idx y1 s3.2).bind fun x4 =>
    if (decide (0 < x4)) = true then
      (entropy_Log ((a0).length : Int)).bind fun y5 =>
      (entropy_Log x4).bind fun y6 =>
      some (.go (IntKind.i64.wrap (s3.1 + (IntKind.i64.wrap (x4 * (IntKind.i64.wrap (y5 - y6))))), IntKind.i64.wrap (s3.2 + 1)))
    else
      some (.go (s3.1, IntKind.i64.wrap (s3.2 + 1)))
  else
    some (.out s3.1)
noncomputable def entropy_Measure (a0 : List Int) : Option (Int) :=
  (entropy_Counts a0).bind fun y1 =>
  (iter (entropy_Measure_l0 y1 a0) (0, 0)).bind fun v2 =>
  some v2
noncomputable def entropy_Mean (a0 : List Int) : Option (Int) :=
  (entropy_Measure a0).bind fun y1 =>
  (ck ((if 1 > ((a0).length : Int) then 1 else ((a0).length : Int)) ≠ 0)).bind fun _ =>
  some (IntKind.i64.wrap ((y1).tdiv (if 1 > ((a0).length : Int) then 1 else ((a0).length : Int))))
noncomputable def entropy_Distinct_l0 (y1 : (List Int)) (s3 : Int × Int) : Option (Lp (Int × Int) Int) :=
  if (decide (s3.2 < 256)) = true then
    (ck (s3.2 < 256)).bind fun _ =>
    (idx y1 s3.2).bind fun x4 =>
    some (.go (IntKind.i64.wrap (s3.1 + (if 1 < x4 then 1 else x4)), IntKind.i64.wrap (s3.2 + 1)))
  else
    some (.out s3.1)
noncomputable def entropy_Distinct (a0 : List Int) : Option (Int) :=
  (entropy_Counts a0).bind fun y1 =>
  (iter (entropy_Distinct_l0 y1) (0, 0)).bind fun v2 =>
  some v2
noncomputable def law02_awake  : Option (Bool) :=
  Option.bind (
    (entropy_Log 8).bind fun y2 =>
    if (y2 == 196608) = true then
      (entropy_Measure [97, 97, 98, 98]).bind fun y3 =>
      some (y3 == 262144)
    else
      some false) fun v1 =>
  some v1
noncomputable def law02_EntropyOrder_l0 (y1 : (List Int) × make_Tape) (s13 : Int × (List Int) × (List Int)) : Option (Lp (Int × (List Int) × (List Int)) ((List Int) × (List Int))) :=
  if (decide (0 ≤ s13.1)) = true then
    (idx y1.1 s13.1).bind fun x14 =>
    (ck ((s13.2.1).length + ([x14]).length ≤ 268435456)).bind fun _ =>
    (idx y1.1 0).bind fun x15 =>
    (ck ((s13.2.2).length + ([x15]).length ≤ 268435456)).bind fun _ =>
    some (.go (IntKind.i64.wrap (s13.1 - 1), (s13.2.1 ++ [x14]), (s13.2.2 ++ [x15])))
  else
    some (.out (s13.2.1, s13.2.2))
noncomputable def law02_EntropyOrder (a0 : List Int) (a1 : Int) : Option (Bool) :=
  (make_Bytes (⟨a0, 0⟩ : make_Tape) (IntKind.i64.wrap (1 + (bAnd .i64 a1 63)))).bind fun y1 =>
  (iter (law02_EntropyOrder_l0 y1) (IntKind.i64.wrap (((y1.1).length : Int) - 1), [], [])).bind fun v2 =>
  Option.bind (
    (entropy_Measure y1.1).bind fun y9 =>
    (entropy_Measure v2.1).bind fun y10 =>
    if (y9 != y10) = true then
      some true
    else
    (entropy_Measure v2.2).bind fun y11 =>
    if (y11 != 0) = true then
      some true
    else
    (entropy_Measure y1.1).bind fun y12 =>
    some (decide (y12 < 0))) fun v3 =>
  if v3 = true then
    some false
  else
  Option.bind (
    (entropy_Mean y1.1).bind fun y5 =>
    (entropy_Distinct y1.1).bind fun y6 =>
    (entropy_Log y6).bind fun y7 =>
    if (decide (y5 ≤ (IntKind.i64.wrap (y7 + 8)))) = true then
      (law02_awake).bind fun y8 =>
      some y8
    else
      some false) fun v4 =>
  some v4
noncomputable def ledger_among (a0 : Int) (a1 : Int) (a2 : Int) : Option (Bool) :=
  (some ((decide (a1 ≤ a0)) && (decide (a0 ≤ a2)))).bind fun v1 =>
  some v1
noncomputable def ledger_Check_l0 (a0 : List api_Record) (s2 : Int × Int) : Option (Lp (Int × Int) (Unit ⊕ Int)) :=
  if (decide (s2.2 < ((a0).length : Int))) = true then
    (idx a0 s2.2).bind fun x3 =>
    Option.bind (
      (ledger_among x3.Known s2.1 1099511627776).bind fun y5 =>
      if (!y5) = true then
        some true
      else
      (ledger_among x3.Since 0 1099511627776).bind fun y6 =>
      if (!y6) = true then
        some true
      else
      (ledger_among x3.Subject 0 15).bind fun y7 =>
      if (!y7) = true then
        some true
      else
      (ledger_among x3.Value (-1000000) 1000000).bind fun y8 =>
      some (!y8)) fun v4 =>
    if v4 = true then
      some (.out (.inr 44))
    else
      some (.go (x3.Known, IntKind.i64.wrap (s2.2 + 1)))
  else
    some (.out (.inl ()))
noncomputable def ledger_Check (a0 : List api_Record) : Option (Int) :=
  if (decide (100 < ((a0).length : Int))) = true then
    some 44
  else
  (iter (ledger_Check_l0 a0) (0, 0)).bind fun q10 =>
  match q10 with
  | .inl v1 =>
    some 0
  | .inr r9 =>
    some r9
noncomputable def ledger_believe_l0 (a0 : List api_Record) (a1 : Int) (a2 : Int) (a3 : Int) (s2 : Int × Int) : Option (Lp (Int × Int) Int) :=
  if (decide (s2.2 < ((a0).length : Int))) = true then
    (idx a0 s2.2).bind fun x3 =>
    Option.bind (
      if (decide (x3.Known ≤ a1)) = true then
        if (x3.Subject == a2) = true then
          if (decide (x3.Since ≤ a3)) = true then
            if (s2.1 == (-1)) = true then
              some true
            else
            (idx a0 s2.1).bind fun x5 =>
            some (decide (x5.Since ≤ x3.Since))
          else
            some false
        else
          some false
      else
        some false) fun v4 =>
    if v4 = true then
      some (.go (s2.2, IntKind.i64.wrap (s2.2 + 1)))
    else
      some (.go (s2.1, IntKind.i64.wrap (s2.2 + 1)))
  else
    some (.out s2.1)
noncomputable def ledger_believe (a0 : List api_Record) (a1 : Int) (a2 : Int) (a3 : Int) : Option (Int) :=
  (iter (ledger_believe_l0 a0 a1 a2 a3) ((-1), 0)).bind fun v1 =>
  some v1
noncomputable def ledger_Believe (a0 : List api_Record) (a1 : Int) (a2 : Int) (a3 : Int) : Option (api_Belief × Bool) :=
  (ledger_Check a0).bind fun y1 =>
  if (y1 != 0) = true then
    some ((⟨0, (-1)⟩ : api_Belief), false)
  else
  (ledger_believe a0 a1 a2 a3).bind fun y2 =>
  if (y2 == (-1)) = true then
    some ((⟨0, (-1)⟩ : api_Belief), false)
  else
  (idx a0 y2).bind fun x3 =>
  some ((⟨x3.Value, y2⟩ : api_Belief), true)
noncomputable def law42_awake  : Option (Bool) :=
  (ledger_Believe [(⟨5, 3, 0, 1⟩ : api_Record), (⟨9, 2, 0, 7⟩ : api_Record)] 9 0 4).bind fun y1 =>
  (ledger_Believe [(⟨5, 3, 0, 1⟩ : api_Record), (⟨9, 2, 0, 7⟩ : api_Record)] 9 0 2).bind fun y2 =>
  (ledger_Believe [(⟨5, 3, 0, 1⟩ : api_Record), (⟨9, 2, 0, 7⟩ : api_Record)] 5 0 2).bind fun y3 =>
  Option.bind (
    if y1.2 = true then
      if y2.2 = true then
        if (!y3.2) = true then
          if (y1.1.Value == 1) = true then
            if (y2.1.Value == 7) = true then
              (ledger_Check [(⟨5, 3, 0, 1⟩ : api_Record), (⟨9, 2, 0, 7⟩ : api_Record)]).bind fun y5 =>
              some (y5 == 0)
            else
              some false
          else
            some false
        else
          some false
      else
        some false
    else
      some false) fun v4 =>
  some v4
noncomputable def make_Clock_l0 (a1 : Int) (s3 : Int × Int × (List Int) × Int × (List Int)) : Option (Lp (Int × Int × (List Int) × Int × (List Int)) ((List Int) × Int × (List Int))) :=
  if (decide (s3.2.1 < a1)) = true then
    (make_Tape_Next (⟨s3.2.2.1, s3.2.2.2.1⟩ : make_Tape) 3).bind fun y4 =>
    (ck ((s3.2.2.2.2).length + ([IntKind.i64.wrap (s3.1 + y4.1)]).length ≤ 268435456)).bind fun _ =>
    some (.go (IntKind.i64.wrap (s3.1 + y4.1), IntKind.i64.wrap (s3.2.1 + 1), y4.2.L, y4.2.at_, (s3.2.2.2.2 ++ [IntKind.i64.wrap (s3.1 + y4.1)])))
  else
    some (.out (s3.2.2.1, s3.2.2.2.1, s3.2.2.2.2))
noncomputable def make_Clock (a0 : make_Tape) (a1 : Int) : Option ((List Int) × make_Tape) :=
  (make_Tape_Next a0 4).bind fun y1 =>
  (iter (make_Clock_l0 a1) (y1.1, 0, y1.2.L, y1.2.at_, [])).bind fun v2 =>
  some (v2.2.2, (⟨v2.1, v2.2.1⟩ : make_Tape))
noncomputable def make_Tape_Between (a0 : make_Tape) (a1 : Int) (a2 : Int) : Option (Int × make_Tape) :=
  (make_Tape_Next a0 (IntKind.i64.wrap ((IntKind.i64.wrap (a2 - a1)) + 1))).bind fun y1 =>
  some (IntKind.i64.wrap (a1 + y1.1), y1.2)
noncomputable def make_Ledger_l0 (y2 : (List Int) × make_Tape) (s4 : Int × (List Int) × Int × (List api_Record)) : Option (Lp (Int × (List Int) × Int × (List api_Record)) ((List Int) × Int × (List api_Record))) :=
  if (decide (s4.1 < ((y2.1).length : Int))) = true then
    (idx y2.1 s4.1).bind fun x5 =>
    (make_Tape_Next (⟨s4.2.1, s4.2.2.1⟩ : make_Tape) 12).bind fun y6 =>
    (make_Tape_Next y6.2 2).bind fun y7 =>
    (make_Tape_Between y7.2 (-2) 4).bind fun y8 =>
    (ck ((s4.2.2.2).length + ([(⟨x5, y6.1, y7.1, y8.1⟩ : api_Record)]).length ≤ 268435456)).bind fun _ =>
    some (.go (IntKind.i64.wrap (s4.1 + 1), y8.2.L, y8.2.at_, (s4.2.2.2 ++ [(⟨x5, y6.1, y7.1, y8.1⟩ : api_Record)])))
  else
    some (.out (s4.2.1, s4.2.2.1, s4.2.2.2))
noncomputable def make_Ledger (a0 : make_Tape) : Option ((List api_Record) × make_Tape) :=
  (make_Tape_Next a0 12).bind fun y1 =>
  (make_Clock y1.2 y1.1).bind fun y2 =>
  (iter (make_Ledger_l0 y2) (0, y2.2.L, y2.2.at_, [])).bind fun v3 =>
  some (v3.2.2, (⟨v3.1, v3.2.1⟩ : make_Tape))
noncomputable def slices_nextPowerOfTwo (a0 : Int) : Option (Int) :=
  (math_bits_Len (IntKind.u64.wrap a0)).bind fun y1 =>
  (ck (¬ y1 < 0)).bind fun _ =>
  some (IntKind.u64.wrap (1 * 2 ^ (min (Int.toNat y1) IntKind.u64.bits)))
noncomputable def slices_xorshift_Next (a0 : Int) : Option (Int × Int) :=
  some (bXor .u64 (bXor .u64 (bXor .u64 a0 (IntKind.u64.wrap (a0 * 2 ^ (min 13 IntKind.u64.bits)))) (((bXor .u64 a0 (IntKind.u64.wrap (a0 * 2 ^ (min 13 IntKind.u64.bits))))).fdiv (2 ^ (min 7 IntKind.u64.bits)))) (IntKind.u64.wrap ((bXor .u64 (bXor .u64 a0 (IntKind.u64.wrap (a0 * 2 ^ (min 13 IntKind.u64.bits)))) (((bXor .u64 a0 (IntKind.u64.wrap (a0 * 2 ^ (min 13 IntKind.u64.bits))))).fdiv (2 ^ (min 7 IntKind.u64.bits)))) * 2 ^ (min 17 IntKind.u64.bits))), bXor .u64 (bXor .u64 (bXor .u64 a0 (IntKind.u64.wrap (a0 * 2 ^ (min 13 IntKind.u64.bits)))) (((bXor .u64 a0 (IntKind.u64.wrap (a0 * 2 ^ (min 13 IntKind.u64.bits))))).fdiv (2 ^ (min 7 IntKind.u64.bits)))) (IntKind.u64.wrap ((bXor .u64 (bXor .u64 a0 (IntKind.u64.wrap (a0 * 2 ^ (min 13 IntKind.u64.bits)))) (((bXor .u64 a0 (IntKind.u64.wrap (a0 * 2 ^ (min 13 IntKind.u64.bits))))).fdiv (2 ^ (min 7 IntKind.u64.bits)))) * 2 ^ (min 17 IntKind.u64.bits))))
noncomputable def ledger_Line_1 (a0 : api_Record) (a1 : api_Record) : Option (Int) :=
  some (IntKind.i64.wrap (a0.Since - a1.Since))
noncomputable def ledger_Line_l0 (a0 : List api_Record) (a1 : Int) (a2 : Int) (s4 : Int × (List api_Record)) : Option (Lp (Int × (List api_Record)) (List api_Record)) :=
  if (decide (s4.1 < ((a0).length : Int))) = true then
    (idx a0 s4.1).bind fun x5 =>
    (ledger_believe a0 a1 a2 x5.Since).bind fun y6 =>
    if (y6 == s4.1) = true then
      (ck ((s4.2).length + ([x5]).length ≤ 268435456)).bind fun _ =>
      some (.go (IntKind.i64.wrap (s4.1 + 1), (s4.2 ++ [x5])))
    else
      some (.go (IntKind.i64.wrap (s4.1 + 1), s4.2))
  else
    some (.out s4.2)
noncomputable def ledger_Line (a0 : List api_Record) (a1 : Int) (a2 : Int) : Option ((List api_Record) × Int) :=
  (ledger_Check a0).bind fun y1 =>
  if (y1 != 0) = true then
    some ([], y1)
  else
  (iter (ledger_Line_l0 a0 a1 a2) (0, [])).bind fun v2 =>
  (slices_SortFunc_api_Record_vec0_at_ledger_Line_1 v2).bind fun y3 =>
  some (y3, 0)
noncomputable def law42_LedgerLine_l1 (y5 : (List api_Record) × Int) (y4 : Int × make_Tape) (y3 : Int × make_Tape) (s8 : Int) (s13 : Bool × Int × Int × Int × Int × Int) : Option (Lp (Bool × Int × Int × Int × Int × Int) ((Bool × Int × Int × Int × Int) ⊕ Bool)) :=
  if (decide (s13.2.1 < ((y5.1).length : Int))) = true then
    (idx y5.1 s13.2.1).bind fun x14 =>
    Option.bind (
      if (decide (0 < s13.2.1)) = true then
        (idx y5.1 (IntKind.i64.wrap (s13.2.1 - 1))).bind fun x16 =>
        if (decide (x14.Since ≤ x16.Since)) = true then
          some true
        else
        if (x14.Subject != y4.1) = true then
          some true
        else
          some (decide (y3.1 < x14.Known))
      else
      if (x14.Subject != y4.1) = true then
        some true
      else
        some (decide (y3.1 < x14.Known))) fun v15 =>
    if v15 = true then
      some (.out (.inr false))
    else
    if (decide (x14.Since ≤ s8)) = true then
      some (.go (true, IntKind.i64.wrap (s13.2.1 + 1), x14.Known, x14.Since, x14.Subject, x14.Value))
    else
      some (.go (s13.1, IntKind.i64.wrap (s13.2.1 + 1), s13.2.2.1, s13.2.2.2.1, s13.2.2.2.2.1, s13.2.2.2.2.2))
  else
    some (.out (.inl (s13.1, s13.2.2.1, s13.2.2.2.1, s13.2.2.2.2.1, s13.2.2.2.2.2)))
noncomputable def law42_LedgerLine_l0 (y2 : (List api_Record) × make_Tape) (y3 : Int × make_Tape) (y4 : Int × make_Tape) (y5 : (List api_Record) × Int) (s8 : Int) : Option (Lp Int (Unit ⊕ Bool)) :=
  if (decide (s8 < 14)) = true then
    (ledger_Believe y2.1 y3.1 y4.1 s8).bind fun y9 =>
    (iter (law42_LedgerLine_l1 y5 y4 y3 s8) (false, 0, 0, 0, 0, 0)).bind fun q18 =>
    match q18 with
    | .inl v10 =>
      Option.bind (
        if (y9.2 != v10.1) = true then
          some true
        else
        if y9.2 = true then
          if (y9.1.Value != v10.2.2.2.2) = true then
            some true
          else
          if (decide (y9.1.Record < 0)) = true then
            some true
          else
          if (decide (((y2.1).length : Int) ≤ y9.1.Record)) = true then
            some true
          else
          (idx y2.1 y9.1.Record).bind fun x12 =>
          if (!((x12.Known == v10.2.1) && ((x12.Since == v10.2.2.1) && ((x12.Subject == v10.2.2.2.1) && (x12.Value == v10.2.2.2.2))))) = true then
            some true
          else
          if (!y9.2) = true then
            some (y9.1.Record != (-1))
          else
            some false
        else
        if (!y9.2) = true then
          some (y9.1.Record != (-1))
        else
          some false) fun v11 =>
      if v11 = true then
        some (.out (.inr false))
      else
        some (.go (IntKind.i64.wrap (s8 + 1)))
    | .inr r17 =>
      some (.out (.inr r17))
  else
    some (.out (.inl ()))
noncomputable def law42_LedgerLine (a0 : List Int) : Option (Bool) :=
  if (decide (200 < ((a0).length : Int))) = true then
    (law42_awake).bind fun y1 =>
    some y1
  else
  (make_Ledger (⟨a0, 0⟩ : make_Tape)).bind fun y2 =>
  (make_Tape_Next y2.2 30).bind fun y3 =>
  (make_Tape_Next y3.2 2).bind fun y4 =>
  (ledger_Line y2.1 y3.1 y4.1).bind fun y5 =>
  if (y5.2 != 0) = true then
    some false
  else
  (iter (law42_LedgerLine_l0 y2 y3 y4 y5) 0).bind fun q20 =>
  match q20 with
  | .inl v6 =>
    (law42_awake).bind fun y7 =>
    some y7
  | .inr r19 =>
    some r19
noncomputable def make_Pick (a0 : make_Tape) (a1 : List Int) : Option (Int × make_Tape) :=
  (make_Tape_Next a0 ((a1).length : Int)).bind fun y1 =>
  (idx a1 y1.1).bind fun x2 =>
  some (x2, y1.2)
noncomputable def ref42_in (a0 : Int) (a1 : Int) (a2 : Int) : Option (Bool) :=
  (some ((decide (a1 ≤ a0)) && (decide (a0 ≤ a2)))).bind fun v1 =>
  some v1
noncomputable def ref42_Valid_l0 (a0 : List api_Record) (s2 : Int) : Option (Lp Int (Unit ⊕ Bool)) :=
  if (decide (s2 < ((a0).length : Int))) = true then
    (idx a0 s2).bind fun x3 =>
    Option.bind (
      (ref42_in x3.Known 0 1099511627776).bind fun y5 =>
      if (!y5) = true then
        some true
      else
      if (decide (0 < s2)) = true then
        (idx a0 (IntKind.i64.wrap (s2 - 1))).bind fun x6 =>
        if (decide (x3.Known < x6.Known)) = true then
          some true
        else
        (ref42_in x3.Since 0 1099511627776).bind fun y7 =>
        if (!y7) = true then
          some true
        else
        (ref42_in x3.Subject 0 15).bind fun y8 =>
        if (!y8) = true then
          some true
        else
        (ref42_in x3.Value (-1000000) 1000000).bind fun y9 =>
        some (!y9)
      else
      (ref42_in x3.Since 0 1099511627776).bind fun y10 =>
      if (!y10) = true then
        some true
      else
      (ref42_in x3.Subject 0 15).bind fun y11 =>
      if (!y11) = true then
        some true
      else
      (ref42_in x3.Value (-1000000) 1000000).bind fun y12 =>
      some (!y12)) fun v4 =>
    if v4 = true then
      some (.out (.inr false))
    else
      some (.go (IntKind.i64.wrap (s2 + 1)))
  else
    some (.out (.inl ()))
noncomputable def ref42_Valid (a0 : List api_Record) : Option (Bool) :=
  if (decide (100 < ((a0).length : Int))) = true then
    some false
  else
  (iter (ref42_Valid_l0 a0) 0).bind fun q14 =>
  match q14 with
  | .inl v1 =>
    some true
  | .inr r13 =>
    some r13
noncomputable def ref42_Check (a0 : List api_Record) : Option (Int) :=
  (ref42_Valid a0).bind fun y1 =>
  if (!y1) = true then
    some 44
  else
    some 0
noncomputable def ref42_says_l0 (a0 : List api_Record) (a1 : Int) (a2 : Int) (a3 : Int) (s2 : Int × Int) : Option (Lp (Int × Int) Int) :=
  if (decide (s2.2 < ((a0).length : Int))) = true then
    (idx a0 s2.2).bind fun x3 =>
    Option.bind (
      if (decide (x3.Known ≤ a1)) = true then
        if (x3.Subject == a2) = true then
          if (decide (x3.Since ≤ a3)) = true then
            if (decide (s2.1 < 0)) = true then
              some true
            else
            (idx a0 s2.1).bind fun x5 =>
            some (decide (x5.Since ≤ x3.Since))
          else
            some false
        else
          some false
      else
        some false) fun v4 =>
    if v4 = true then
      some (.go (s2.2, IntKind.i64.wrap (s2.2 + 1)))
    else
      some (.go (s2.1, IntKind.i64.wrap (s2.2 + 1)))
  else
    some (.out s2.1)
noncomputable def ref42_says (a0 : List api_Record) (a1 : Int) (a2 : Int) (a3 : Int) : Option (Int) :=
  (iter (ref42_says_l0 a0 a1 a2 a3) ((-1), 0)).bind fun v1 =>
  some v1
noncomputable def ref42_Believe (a0 : List api_Record) (a1 : Int) (a2 : Int) (a3 : Int) : Option (api_Belief × Bool) :=
  (ref42_Valid a0).bind fun y1 =>
  if (!y1) = true then
    some ((⟨0, (-1)⟩ : api_Belief), false)
  else
  (ref42_says a0 a1 a2 a3).bind fun y2 =>
  if (decide (y2 < 0)) = true then
    some ((⟨0, (-1)⟩ : api_Belief), false)
  else
  (idx a0 y2).bind fun x3 =>
  some ((⟨x3.Value, y2⟩ : api_Belief), true)
noncomputable def ref42_Line_l1 (s3 : Int × (List api_Record)) (x4 : api_Record) (s7 : Int) : Option (Lp Int Int) :=
  Option.bind (
    if (decide (s7 < ((s3.2).length : Int))) = true then
      (ck (0 ≤ s7 ∧ (Int.toNat s7) < (s3.2).length)).bind fun _ =>
      (idx s3.2 s7).bind fun x9 =>
      some (decide (x9.Since < x4.Since))
    else
      some false) fun v8 =>
  if v8 = true then
    some (.go (IntKind.i64.wrap (s7 + 1)))
  else
    some (.out s7)
noncomputable def ref42_Line_l0 (a0 : List api_Record) (a1 : Int) (a2 : Int) (s3 : Int × (List api_Record)) : Option (Lp (Int × (List api_Record)) (List api_Record)) :=
  if (decide (s3.1 < ((a0).length : Int))) = true then
    (idx a0 s3.1).bind fun x4 =>
    Option.bind (
      if (decide (x4.Known ≤ a1)) = true then
        if (x4.Subject == a2) = true then
          (ref42_says a0 a1 a2 x4.Since).bind fun y10 =>
          some (y10 == s3.1)
        else
          some false
      else
        some false) fun v5 =>
    if v5 = true then
      (iter (ref42_Line_l1 s3 x4) 0).bind fun v6 =>
      (ck (0 ≤ 0 ∧ 0 ≤ v6 ∧ v6 ≤ (((s3.2).length : Nat) : Int))).bind fun _ =>
      (ck (0 ≤ v6 ∧ v6 ≤ (((s3.2).length : Nat) : Int) ∧ (((s3.2).length : Nat) : Int) ≤ (((s3.2).length : Nat) : Int))).bind fun _ =>
      (ck ((Int.toNat v6) + ((s3.2).length - (Int.toNat v6)) ≤ (s3.2).length)).bind fun _ =>
      (ck (([x4]).length + (((((s3.2).drop (Int.toNat v6))).take ((s3.2).length - (Int.toNat v6)))).length ≤ 268435456)).bind fun _ =>
      (ck ((Int.toNat v6) ≤ (s3.2).length)).bind fun _ =>
      (ck ((Int.toNat v6) + (([x4] ++ ((((s3.2).drop (Int.toNat v6))).take ((s3.2).length - (Int.toNat v6))))).length ≤ 268435456)).bind fun _ =>
      some (.go (IntKind.i64.wrap (s3.1 + 1), (((s3.2).take (Int.toNat v6)) ++ ([x4] ++ ((((s3.2).drop (Int.toNat v6))).take ((s3.2).length - (Int.toNat v6)))))))
    else
      some (.go (IntKind.i64.wrap (s3.1 + 1), s3.2))
  else
    some (.out s3.2)
noncomputable def ref42_Line (a0 : List api_Record) (a1 : Int) (a2 : Int) : Option ((List api_Record) × Int) :=
  (ref42_Valid a0).bind fun y1 =>
  if (!y1) = true then
    some ([], 44)
  else
  (iter (ref42_Line_l0 a0 a1 a2) (0, [])).bind fun v2 =>
  some (v2, 0)
noncomputable def ledger_Changes_l0 (a0 : List api_Record) (a1 : Int) (a2 : Int) (s3 : Int × Int × (List api_Belief)) : Option (Lp (Int × Int × (List api_Belief)) (List api_Belief)) :=
  if (decide (s3.2.1 < ((a0).length : Int))) = true then
    (idx a0 s3.2.1).bind fun x4 =>
    (ledger_believe a0 x4.Known a1 a2).bind fun y5 =>
    if (y5 != s3.1) = true then
      (idx a0 y5).bind fun x6 =>
      (ck ((s3.2.2).length + ([(⟨x6.Value, y5⟩ : api_Belief)]).length ≤ 268435456)).bind fun _ =>
      some (.go (y5, IntKind.i64.wrap (s3.2.1 + 1), (s3.2.2 ++ [(⟨x6.Value, y5⟩ : api_Belief)])))
    else
      some (.go (s3.1, IntKind.i64.wrap (s3.2.1 + 1), s3.2.2))
  else
    some (.out s3.2.2)
noncomputable def ledger_Changes (a0 : List api_Record) (a1 : Int) (a2 : Int) : Option ((List api_Belief) × Int) :=
  (ledger_Check a0).bind fun y1 =>
  if (y1 != 0) = true then
    some ([], y1)
  else
  (iter (ledger_Changes_l0 a0 a1 a2) ((-1), 0, [])).bind fun v2 =>
  some (v2, 0)
noncomputable def ledger_Learned_l0 (y1 : (List api_Belief) × Int) (a3 : Int) (a0 : List api_Record) (s3 : Int) : Option (Lp Int (Unit ⊕ (Int × Bool))) :=
  if (decide (s3 < ((y1.1).length : Int))) = true then
    (idx y1.1 s3).bind fun x4 =>
    if (x4.Value == a3) = true then
      (idx a0 x4.Record).bind fun x5 =>
      some (.out (.inr (x5.Known, true)))
    else
      some (.go (IntKind.i64.wrap (s3 + 1)))
  else
    some (.out (.inl ()))
noncomputable def ledger_Learned (a0 : List api_Record) (a1 : Int) (a2 : Int) (a3 : Int) : Option (Int × Bool) :=
  (ledger_Changes a0 a1 a2).bind fun y1 =>
  (iter (ledger_Learned_l0 y1 a3 a0) 0).bind fun q7 =>
  match q7 with
  | .inl v2 =>
    some (0, false)
  | .inr r6 =>
    some r6
noncomputable def ref42_Learned_l0 (a0 : List api_Record) (a1 : Int) (a2 : Int) (a3 : Int) (s3 : Int) : Option (Lp Int (Unit ⊕ (Int × Bool))) :=
  if (decide (s3 < ((a0).length : Int))) = true then
    (idx a0 s3).bind fun x4 =>
    (ref42_Believe a0 x4.Known a1 a2).bind fun y5 =>
    (some (y5.2 && (y5.1.Value == a3))).bind fun v6 =>
    if v6 = true then
      some (.out (.inr (x4.Known, true)))
    else
      some (.go (IntKind.i64.wrap (s3 + 1)))
  else
    some (.out (.inl ()))
noncomputable def ref42_Learned (a0 : List api_Record) (a1 : Int) (a2 : Int) (a3 : Int) : Option (Int × Bool) :=
  (ref42_Valid a0).bind fun y1 =>
  if (!y1) = true then
    some (0, false)
  else
  (iter (ref42_Learned_l0 a0 a1 a2 a3) 0).bind fun q8 =>
  match q8 with
  | .inl v2 =>
    some (0, false)
  | .inr r7 =>
    some r7
noncomputable def ref42_Changes_l0 (a0 : List api_Record) (a1 : Int) (a2 : Int) (s3 : Int × (List api_Belief)) : Option (Lp (Int × (List api_Belief)) (List api_Belief)) :=
  if (decide (s3.1 < ((a0).length : Int))) = true then
    (idx a0 s3.1).bind fun x4 =>
    (ref42_Believe a0 x4.Known a1 a2).bind fun y5 =>
    Option.bind (
      if y5.2 = true then
        if (((s3.2).length : Int) == 0) = true then
          some true
        else
        (ck (0 ≤ IntKind.i64.wrap (((s3.2).length : Int) - 1) ∧ (Int.toNat (IntKind.i64.wrap (((s3.2).length : Int) - 1))) < (s3.2).length)).bind fun _ =>
        (idx s3.2 (IntKind.i64.wrap (((s3.2).length : Int) - 1))).bind fun x7 =>
        some (x7.Record != y5.1.Record)
      else
        some false) fun v6 =>
    if v6 = true then
      (ck ((s3.2).length + ([y5.1]).length ≤ 268435456)).bind fun _ =>
      some (.go (IntKind.i64.wrap (s3.1 + 1), (s3.2 ++ [y5.1])))
    else
      some (.go (IntKind.i64.wrap (s3.1 + 1), s3.2))
  else
    some (.out s3.2)
noncomputable def ref42_Changes (a0 : List api_Record) (a1 : Int) (a2 : Int) : Option ((List api_Belief) × Int) :=
  (ref42_Valid a0).bind fun y1 =>
  if (!y1) = true then
    some ([], 44)
  else
  (iter (ref42_Changes_l0 a0 a1 a2) (0, [])).bind fun v2 =>
  some (v2, 0)
noncomputable def ref42_Same_l0 (a0 : List api_Record) (a1 : List api_Record) (s2 : Int) : Option (Lp Int (Unit ⊕ Bool)) :=
  if (decide (s2 < ((a0).length : Int))) = true then
    (idx a0 s2).bind fun x3 =>
    (idx a1 s2).bind fun x4 =>
    if (!((x3.Known == x4.Known) && ((x3.Since == x4.Since) && ((x3.Subject == x4.Subject) && (x3.Value == x4.Value))))) = true then
      some (.out (.inr false))
    else
      some (.go (IntKind.i64.wrap (s2 + 1)))
  else
    some (.out (.inl ()))
noncomputable def ref42_Same (a0 : List api_Record) (a1 : List api_Record) : Option (Bool) :=
  if (((a0).length : Int) != ((a1).length : Int)) = true then
    some false
  else
  (iter (ref42_Same_l0 a0 a1) 0).bind fun q6 =>
  match q6 with
  | .inl v1 =>
    some true
  | .inr r5 =>
    some r5
noncomputable def ref42_Beliefs_l0 (a0 : List api_Belief) (a1 : List api_Belief) (s2 : Int) : Option (Lp Int (Unit ⊕ Bool)) :=
  if (decide (s2 < ((a0).length : Int))) = true then
    (idx a0 s2).bind fun x3 =>
    (idx a1 s2).bind fun x4 =>
    if (!((x3.Value == x4.Value) && (x3.Record == x4.Record))) = true then
      some (.out (.inr false))
    else
      some (.go (IntKind.i64.wrap (s2 + 1)))
  else
    some (.out (.inl ()))
noncomputable def ref42_Beliefs (a0 : List api_Belief) (a1 : List api_Belief) : Option (Bool) :=
  if (((a0).length : Int) != ((a1).length : Int)) = true then
    some false
  else
  (iter (ref42_Beliefs_l0 a0 a1) 0).bind fun q6 =>
  match q6 with
  | .inl v1 =>
    some true
  | .inr r5 =>
    some r5
noncomputable def ledger_Append (a0 : List api_Record) (a1 : api_Record) : Option ((List api_Record) × Int) :=
  (ledger_Check a0).bind fun y1 =>
  if (y1 != 0) = true then
    some ([], 44)
  else
  if (decide (100 ≤ ((a0).length : Int))) = true then
    some ([], 3)
  else
  (ck (0 ≤ 0 ∧ 0 ≤ ((a0).length : Int) ∧ ((a0).length : Int) ≤ ((a0).length : Int))).bind fun _ =>
  (ck ((((a0).take (Int.toNat ((a0).length : Int)))).length + ([a1]).length ≤ 268435456 ∧ 0 < ([a1]).length)).bind fun _ =>
  (ledger_Check (((a0).take (Int.toNat ((a0).length : Int))) ++ [a1])).bind fun y2 =>
  if (y2 != 0) = true then
    some ([], 44)
  else
    some ((((a0).take (Int.toNat ((a0).length : Int))) ++ [a1]), 0)
noncomputable def ref42_Append (a0 : List api_Record) (a1 : api_Record) : Option ((List api_Record) × Int) :=
  (ref42_Valid a0).bind fun y1 =>
  if (!y1) = true then
    some ([], 44)
  else
  if (decide (100 ≤ ((a0).length : Int))) = true then
    some ([], 3)
  else
  (ck ((a0).length ≤ 268435456)).bind fun _ =>
  (ck ((a0).length + ([a1]).length ≤ 268435456)).bind fun _ =>
  (ref42_Valid (a0 ++ [a1])).bind fun y2 =>
  if (!y2) = true then
    some ([], 44)
  else
    some ((a0 ++ [a1]), 0)
noncomputable def law42_LedgerExact_l3 (l26 : List api_Record) (x9 : List api_Record) (s28 : Int) : Option (Lp Int (Unit ⊕ Bool)) :=
  if (decide (s28 < 2)) = true then
    (ck (s28 < 2)).bind fun _ =>
    (idx l26 s28).bind fun x29 =>
    (ledger_Append x9 x29).bind fun y30 =>
    (ref42_Append x9 x29).bind fun y31 =>
    Option.bind (
      if (y30.2 != y31.2) = true then
        some true
      else
      (ref42_Same y30.1 y31.1).bind fun y33 =>
      some (!y33)) fun v32 =>
    if v32 = true then
      some (.out (.inr false))
    else
      some (.go (IntKind.i64.wrap (s28 + 1)))
  else
    some (.out (.inl ()))
noncomputable def law42_LedgerExact_l2 (l20 : List (List Int)) (x9 : List api_Record) (s36 : Int) : Option (Lp Int (Unit ⊕ Bool)) :=
  if (decide (s36 < 3)) = true then
    (ck (s36 < 3)).bind fun _ =>
    (idx l20 s36).bind fun x37 =>
    (ledger_Believe x9 (arD x37 0) (arD x37 1) (arD x37 2)).bind fun y38 =>
    (ref42_Believe x9 (arD x37 0) (arD x37 1) (arD x37 2)).bind fun y39 =>
    (ledger_Line x9 (arD x37 0) (arD x37 1)).bind fun y40 =>
    (ref42_Line x9 (arD x37 0) (arD x37 1)).bind fun y41 =>
    (ledger_Learned x9 (arD x37 1) (arD x37 2) (arD x37 3)).bind fun y42 =>
    (ref42_Learned x9 (arD x37 1) (arD x37 2) (arD x37 3)).bind fun y43 =>
    (ledger_Changes x9 (arD x37 1) (arD x37 2)).bind fun y44 =>
    (ref42_Changes x9 (arD x37 1) (arD x37 2)).bind fun y45 =>
    Option.bind (
      if (!((y38.1.Value == y39.1.Value) && (y38.1.Record == y39.1.Record))) = true then
        some true
      else
      if (y38.2 != y39.2) = true then
        some true
      else
      if (y40.2 != y41.2) = true then
        some true
      else
      (ref42_Same y40.1 y41.1).bind fun y47 =>
      if (!y47) = true then
        some true
      else
      if (y42.1 != y43.1) = true then
        some true
      else
      if (y42.2 != y43.2) = true then
        some true
      else
      if (y44.2 != y45.2) = true then
        some true
      else
      (ref42_Beliefs y44.1 y45.1).bind fun y48 =>
      some (!y48)) fun v46 =>
    if v46 = true then
      some (.out (.inr false))
    else
      some (.go (IntKind.i64.wrap (s36 + 1)))
  else
    some (.out (.inl ()))
noncomputable def law42_LedgerExact_l1 (l5 : List (List api_Record)) (a3 : Int) (a4 : Int) (a5 : Int) (a6 : Int) (a2 : api_Record) (s8 : Int × (List Int) × Int) : Option (Lp (Int × (List Int) × Int) (Unit ⊕ Bool)) :=
  if (decide (s8.1 < 3)) = true then
    (ck (s8.1 < 3)).bind fun _ =>
    (idx l5 s8.1).bind fun x9 =>
    (ledger_Check x9).bind fun y10 =>
    (ref42_Check x9).bind fun y11 =>
    if (y10 != y11) = true then
      some (.out (.inr false))
    else
    (make_Tape_Next (⟨s8.2.1, s8.2.2⟩ : make_Tape) 30).bind fun y12 =>
    (make_Tape_Next y12.2 2).bind fun y13 =>
    (make_Tape_Next y13.2 14).bind fun y14 =>
    (make_Tape_Between y14.2 (-2) 4).bind fun y15 =>
    (make_Tape_Next y15.2 30).bind fun y16 =>
    (make_Tape_Between y16.2 (-1) 16).bind fun y17 =>
    (make_Tape_Between y17.2 (-1) 14).bind fun y18 =>
    (make_Tape_Between y18.2 (-2) 4).bind fun y19 =>
    (some [[a3, a4, a5, a6], [y12.1, y13.1, y14.1, y15.1], [y16.1, y17.1, y18.1, y19.1]]).bind fun l20 =>
    (iter (law42_LedgerExact_l2 l20 x9) 0).bind fun q50 =>
    match q50 with
    | .inl v21 =>
      (make_Tape_Next y19.2 40).bind fun y22 =>
      (make_Tape_Next y22.2 9).bind fun y23 =>
      (make_Tape_Next y23.2 17).bind fun y24 =>
      (make_Tape_Next y24.2 3).bind fun y25 =>
      (some [a2, (⟨y22.1, y23.1, y24.1, y25.1⟩ : api_Record)]).bind fun l26 =>
      (iter (law42_LedgerExact_l3 l26 x9) 0).bind fun q35 =>
      match q35 with
      | .inl v27 =>
        some (.go (IntKind.i64.wrap (s8.1 + 1), y25.2.L, y25.2.at_))
      | .inr r34 =>
        some (.out (.inr r34))
    | .inr r49 =>
      some (.out (.inr r49))
  else
    some (.out (.inl ()))
noncomputable def law42_LedgerExact_j0 (y3 : (List api_Record) × make_Tape) (a1 : List api_Record) (a3 : Int) (a4 : Int) (a5 : Int) (a6 : Int) (a2 : api_Record) (v4 : (List Int) × Int × (List api_Record)) : Option Bool :=
  (some [y3.1, v4.2.2, a1]).bind fun l5 =>
  (iter (law42_LedgerExact_l1 l5 a3 a4 a5 a6 a2) (0, v4.1, v4.2.1)).bind fun q52 =>
  match q52 with
  | .inl v6 =>
    (law42_awake).bind fun y7 =>
    some y7
  | .inr r51 =>
    some r51
noncomputable def law42_LedgerExact (a0 : List Int) (a1 : List api_Record) (a2 : api_Record) (a3 : Int) (a4 : Int) (a5 : Int) (a6 : Int) : Option (Bool) :=
  (some ((decide (200 < ((a0).length : Int))) || (decide (40 < ((a1).length : Int))))).bind fun v1 =>
  if v1 = true then
    (law42_awake).bind fun y2 =>
    some y2
  else
  (make_Ledger (⟨a0, 0⟩ : make_Tape)).bind fun y3 =>
  (ck ((y3.1).length ≤ 268435456)).bind fun _ =>
  if (decide (0 < ((y3.1).length : Int))) = true then
    (make_Tape_Next y3.2 ((y3.1).length : Int)).bind fun y53 =>
    (ck (0 ≤ y53.1 ∧ (Int.toNat y53.1) < (y3.1).length)).bind fun _ =>
    (make_Tape_Next y53.2 4).bind fun y54 =>
    if (y54.1 == 0) = true then
      (make_Tape_Between y54.2 (-1) 30).bind fun y55 =>
      (idx y3.1 y53.1).bind fun x56 =>
      law42_LedgerExact_j0 y3 a1 a3 a4 a5 a6 a2 (y55.2.L, y55.2.at_, (y3.1.set (Int.toNat y53.1) (⟨y55.1, x56.Since, x56.Subject, x56.Value⟩ : api_Record)))
    else
    if (y54.1 == 1) = true then
      (make_Tape_Between y54.2 (-1) 12).bind fun y57 =>
      (idx y3.1 y53.1).bind fun x58 =>
      law42_LedgerExact_j0 y3 a1 a3 a4 a5 a6 a2 (y57.2.L, y57.2.at_, (y3.1.set (Int.toNat y53.1) (⟨x58.Known, y57.1, x58.Subject, x58.Value⟩ : api_Record)))
    else
    if (y54.1 == 2) = true then
      (make_Tape_Between y54.2 (-1) 16).bind fun y59 =>
      (idx y3.1 y53.1).bind fun x60 =>
      law42_LedgerExact_j0 y3 a1 a3 a4 a5 a6 a2 (y59.2.L, y59.2.at_, (y3.1.set (Int.toNat y53.1) (⟨x60.Known, x60.Since, y59.1, x60.Value⟩ : api_Record)))
    else
    (make_Pick y54.2 [1000000, 1000001, (-1000000), (-1000001)]).bind fun y61 =>
    (idx y3.1 y53.1).bind fun x62 =>
    law42_LedgerExact_j0 y3 a1 a3 a4 a5 a6 a2 (y61.2.L, y61.2.at_, (y3.1.set (Int.toNat y53.1) (⟨x62.Known, x62.Since, x62.Subject, y61.1⟩ : api_Record)))
  else
    law42_LedgerExact_j0 y3 a1 a3 a4 a5 a6 a2 (y3.2.L, y3.2.at_, y3.1)
end Go.Vl
