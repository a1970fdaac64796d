/- Plain functions that mirror functions of the given program. Conditions: none. -/
import Derived.Test.YtkgimfomocpebabVlV
import Derived.Test.YtkgimfomocpebabR1bh
set_option linter.unusedSimpArgs false
set_option linter.unusedVariables false
namespace Go.Vl
open Go
structure make_Tape where
  L : List Int
  at_ : Int
deriving Inhabited
@[simp] def make_Tape_row (x : make_Tape) : List D := [.slice (rowsF (iRow .i64) x.L), .int .i64 x.at_]
@[simp] def make_Tape_av (x : make_Tape) : List AV := [.d (.slice (rowsF (iRow .i64) x.L)), .d (.int .i64 x.at_)]
noncomputable def make_Tape_Next (a0 : make_Tape) (a1 : Int) : Option (Int × make_Tape) :=
  if (decide (((a0.L).length : Int) ≤ a0.at_)) = true then
    some (0, a0)
  else
  (idx a0.L a0.at_).bind fun x1 =>
  (ck (a1 ≠ 0)).bind fun _ =>
  some (((bAnd .i64 x1 65535)).tmod a1, (⟨a0.L, IntKind.i64.wrap (a0.at_ + 1)⟩ : make_Tape))
noncomputable def make_Bytes_j1 (y3 : Int × make_Tape) (s2 : Int × (List Int) × Int × (List Int)) (v7 : Bool) : Option (Lp (Int × (List Int) × Int × (List Int)) ((List Int) × Int × (List Int))) :=
  if v7 = true then
    (make_Tape_Next y3.2 10).bind fun y8 =>
    (ck ((s2.2.2.2).length + ([IntKind.u8.wrap (IntKind.i64.wrap (48 + y8.1))]).length ≤ 268435456)).bind fun _ =>
    some (.go (IntKind.i64.wrap (s2.1 + 1), y8.2.L, y8.2.at_, (s2.2.2.2 ++ [IntKind.u8.wrap (IntKind.i64.wrap (48 + y8.1))])))
  else
  (make_Tape_Next y3.2 8).bind fun y9 =>
  (sidx (⟨#[97, 98, 99, 100, 101, 102, 116, 107]⟩ : ByteArray) y9.1).bind fun x10 =>
  (ck ((s2.2.2.2).length + ([x10]).length ≤ 268435456)).bind fun _ =>
  some (.go (IntKind.i64.wrap (s2.1 + 1), y9.2.L, y9.2.at_, (s2.2.2.2 ++ [x10])))
noncomputable def make_Bytes_l0 (a1 : Int) (s2 : Int × (List Int) × Int × (List Int)) : Option (Lp (Int × (List Int) × Int × (List Int)) ((List Int) × Int × (List Int))) :=
  if (decide (s2.1 < a1)) = true then
    (make_Tape_Next (⟨s2.2.1, s2.2.2.1⟩ : make_Tape) 8).bind fun y3 =>
    if (y3.1 == 0) = true then
      (make_Tape_Next y3.2 8).bind fun y4 =>
      (sidx (⟨#[32, 10, 61, 37, 43, 47, 45, 46]⟩ : ByteArray) y4.1).bind fun x5 =>
      (ck ((s2.2.2.2).length + ([x5]).length ≤ 268435456)).bind fun _ =>
      some (.go (IntKind.i64.wrap (s2.1 + 1), y4.2.L, y4.2.at_, (s2.2.2.2 ++ [x5])))
    else
    if (y3.1 == 1) = true then
      (make_Tape_Next y3.2 256).bind fun y6 =>
      (ck ((s2.2.2.2).length + ([IntKind.u8.wrap y6.1]).length ≤ 268435456)).bind fun _ =>
      some (.go (IntKind.i64.wrap (s2.1 + 1), y6.2.L, y6.2.at_, (s2.2.2.2 ++ [IntKind.u8.wrap y6.1])))
    else
    if (y3.1 == 2) = true then
      make_Bytes_j1 y3 s2 (y3.1 == 2)
    else
      make_Bytes_j1 y3 s2 (y3.1 == 3)
  else
    some (.out (s2.2.1, s2.2.2.1, s2.2.2.2))
noncomputable def make_Bytes (a0 : make_Tape) (a1 : Int) : Option ((List Int) × make_Tape) :=
  (iter (make_Bytes_l0 a1) (0, a0.L, a0.at_, [])).bind fun v1 =>
  some (v1.2.2, (⟨v1.1, v1.2.1⟩ : make_Tape))
noncomputable def entropy_Counts_l0 (a0 : List Int) (s2 : Int × (List Int)) : Option (Lp (Int × (List Int)) (List Int)) :=
  if (decide (s2.1 < ((a0).length : Int))) = true then
    (idx a0 s2.1).bind fun x3 =>
    (ck (0 ≤ x3 ∧ x3 < 256)).bind fun _ =>
    (idx s2.2 x3).bind fun x4 =>
    (ck (0 ≤ x3 ∧ x3 < 256)).bind fun _ =>
    (ck ((Int.toNat x3) < (s2.2).length)).bind fun _ =>
    some (.go (IntKind.i64.wrap (s2.1 + 1), (s2.2.set (Int.toNat x3) (IntKind.i64.wrap (x4 + 1)))))
  else
    some (.out s2.2)
noncomputable def entropy_Counts (a0 : List Int) : Option ((List Int)) :=
  if (decide (65536 < ((a0).length : Int))) = true then
    some (zerosI 256)
  else
  (iter (entropy_Counts_l0 a0) (0, (zerosI 256))).bind fun v1 =>
  (ck ((v1).length = 256)).bind fun _ =>
  (ck ((v1).length = 256)).bind fun _ =>
  (ck ((v1).length = 256)).bind fun _ =>
  some v1
noncomputable def entropy_Distinct_l0 (y1 : (List Int)) (s3 : Int × Int) : Option (Lp (Int × Int) Int) :=
  if (decide (s3.2 < 256)) = true then
    (ck (s3.2 < 256)).bind fun _ =>
    (idx y1 s3.2).bind fun x4 =>
    some (.go (IntKind.i64.wrap (s3.1 + (if 1 < x4 then 1 else x4)), IntKind.i64.wrap (s3.2 + 1)))
  else
    some (.out s3.1)
noncomputable def entropy_Distinct (a0 : List Int) : Option (Int) :=
  (entropy_Counts a0).bind fun y1 =>
  (iter (entropy_Distinct_l0 y1) (0, 0)).bind fun v2 =>
  some v2
noncomputable def math_bits_Len (a0 : Int) : Option (Int) :=
  (math_bits_Len64 a0).bind fun y1 =>
  some y1
noncomputable def entropy_Log_l0  (s4 : Int × Int × Int) : Option (Lp (Int × Int × Int) Int) :=
  if (decide (s4.2.2 < 16)) = true then
    if (decide (2147483648 ≤ (IntKind.i64.wrap (((IntKind.i64.wrap (s4.2.1 * s4.2.1))).tdiv 1073741824)))) = true then
      some (.go (IntKind.i64.wrap ((IntKind.i64.wrap (s4.1 * 2)) + 1), IntKind.i64.wrap (((IntKind.i64.wrap (((IntKind.i64.wrap (s4.2.1 * s4.2.1))).tdiv 1073741824))).tdiv 2), IntKind.i64.wrap (s4.2.2 + 1)))
    else
      some (.go (IntKind.i64.wrap (s4.1 * 2), IntKind.i64.wrap (((IntKind.i64.wrap (s4.2.1 * s4.2.1))).tdiv 1073741824), IntKind.i64.wrap (s4.2.2 + 1)))
  else
    some (.out s4.1)
noncomputable def entropy_Log (a0 : Int) : Option (Int) :=
  (some ((decide (a0 < 1)) || (decide (1073741824 < a0)))).bind fun v1 =>
  if v1 = true then
    some 0
  else
  (math_bits_Len (IntKind.u64.wrap a0)).bind fun y2 =>
  (ck (¬ (IntKind.i64.wrap (30 - (IntKind.i64.wrap (y2 - 1)))) < 0)).bind fun _ =>
  (iter (entropy_Log_l0) (IntKind.i64.wrap (y2 - 1), IntKind.i64.wrap (a0 * 2 ^ (min (Int.toNat (IntKind.i64.wrap (30 - (IntKind.i64.wrap (y2 - 1))))) IntKind.i64.bits)), 0)).bind fun v3 =>
  some v3
noncomputable def entropy_Measure_l0 (y1 : (List Int)) (a0 : List Int) (s3 : Int × Int) : Option (Lp (Int × Int) Int) :=
  if (decide (s3.2 < 256)) = true then
    (ck (s3.2 < 256)).bind fun _ =>
    (idx y1 s3.2).bind fun x4 =>
    if (decide (0 < x4)) = true then
      (entropy_Log ((a0).length : Int)).bind fun y5 =>
      (entropy_Log x4).bind fun y6 =>
      some (.go (IntKind.i64.wrap (s3.1 + (IntKind.i64.wrap (x4 * (IntKind.i64.wrap (y5 - y6))))), IntKind.i64.wrap (s3.2 + 1)))
    else
      some (.go (s3.1, IntKind.i64.wrap (s3.2 + 1)))
  else
    some (.out s3.1)
noncomputable def entropy_Measure (a0 : List Int) : Option (Int) :=
  (entropy_Counts a0).bind fun y1 =>
  (iter (entropy_Measure_l0 y1 a0) (0, 0)).bind fun v2 =>
  some v2
noncomputable def law02_awake  : Option (Bool) :=
  Option.bind (
    (entropy_Log 8).bind fun y2 =>
    if (y2 == 196608) = true then
      (entropy_Measure [97, 97, 98, 98]).bind fun y3 =>
      some (y3 == 262144)
    else
      some false) fun v1 =>
  some v1
noncomputable def law02_EntropyCounts_l0 (y5 : (List Int)) (y3 : (List Int)) (y4 : (List Int)) (s10 : Int × Int × Int) : Option (Lp (Int × Int × Int) ((Int × Int) ⊕ Bool)) :=
  if (decide (s10.2.2 < 256)) = true then
    (ck (0 ≤ s10.2.2 ∧ s10.2.2 < 256)).bind fun _ =>
    (idx y5 s10.2.2).bind fun x11 =>
    (ck (0 ≤ s10.2.2 ∧ s10.2.2 < 256)).bind fun _ =>
    (idx y5 s10.2.2).bind fun x12 =>
    (ck (0 ≤ s10.2.2 ∧ s10.2.2 < 256)).bind fun _ =>
    (idx y3 s10.2.2).bind fun x13 =>
    (ck (0 ≤ s10.2.2 ∧ s10.2.2 < 256)).bind fun _ =>
    (idx y4 s10.2.2).bind fun x14 =>
    if (x12 != (IntKind.i64.wrap (x13 + x14))) = true then
      some (.out (.inr false))
    else
    (ck (0 ≤ s10.2.2 ∧ s10.2.2 < 256)).bind fun _ =>
    (idx y3 s10.2.2).bind fun x15 =>
    if (decide (0 < x15)) = true then
      some (.go (IntKind.i64.wrap (s10.1 + x11), IntKind.i64.wrap (s10.2.1 + 1), IntKind.i64.wrap (s10.2.2 + 1)))
    else
      some (.go (IntKind.i64.wrap (s10.1 + x11), s10.2.1, IntKind.i64.wrap (s10.2.2 + 1)))
  else
    some (.out (.inl (s10.1, s10.2.1)))
noncomputable def law02_EntropyCounts (a0 : List Int) (a1 : Int) (a2 : Int) : Option (Bool) :=
  (make_Bytes (⟨a0, 0⟩ : make_Tape) (bAnd .i64 a1 31)).bind fun y1 =>
  (make_Bytes y1.2 (bAnd .i64 a2 31)).bind fun y2 =>
  (entropy_Counts y1.1).bind fun y3 =>
  (entropy_Counts y2.1).bind fun y4 =>
  (ck ((([] : List Int)).length + (y1.1).length ≤ 268435456)).bind fun _ =>
  (ck (((([] : List Int) ++ y1.1)).length + (y2.1).length ≤ 268435456)).bind fun _ =>
  (entropy_Counts ((([] : List Int) ++ y1.1) ++ y2.1)).bind fun y5 =>
  (ck ((y3).length = 256)).bind fun _ =>
  (ck ((y4).length = 256)).bind fun _ =>
  (ck ((y5).length = 256)).bind fun _ =>
  (iter (law02_EntropyCounts_l0 y5 y3 y4) (0, 0, 0)).bind fun q17 =>
  match q17 with
  | .inl v6 =>
    Option.bind (
      if (v6.1 == (IntKind.i64.wrap (((y1.1).length : Int) + ((y2.1).length : Int)))) = true then
        (entropy_Distinct y1.1).bind fun y8 =>
        if (y8 == v6.2) = true then
          (law02_awake).bind fun y9 =>
          some y9
        else
          some false
      else
        some false) fun v7 =>
    some v7
  | .inr r16 =>
    some r16
end Go.Vl
