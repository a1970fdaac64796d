/- Plain functions that mirror functions of the given program. Conditions: none. -/
import Derived.Test.YtkgimfomocpebabVlV
import Derived.Test.YtkgimfomocpebabR1em
set_option linter.unusedSimpArgs false
set_option linter.unusedVariables false
namespace Go.Vl
open Go

noncomputable def ref02_Counts_l0 (a0 : List Int) (s2 : Int × (List Int)) : Option (Lp (Int × (List Int)) (List Int)) :=
  if (decide (s2.1 < ((a0).length : Int))) = true then
    (idx a0 s2.1).bind fun x3 =>
    (ck (0 ≤ x3 ∧ x3 < 256)).bind fun _ =>
    (idx s2.2 x3).bind fun x4 =>
    (ck (0 ≤ x3 ∧ x3 < 256)).bind fun _ =>
    (ck ((Int.toNat x3) < (s2.2).length)).bind fun _ =>
    some (.go (IntKind.i64.wrap (s2.1 + 1), (s2.2.set (Int.toNat x3) (IntKind.i64.wrap (x4 + 1)))))
  else
    some (.out s2.2)
noncomputable def ref02_Counts (a0 : List Int) : Option ((List Int)) :=
  if (decide (65536 < ((a0).length : Int))) = true then
    some (zerosI 256)
  else
  (iter (ref02_Counts_l0 a0) (0, (zerosI 256))).bind fun v1 =>
  (ck ((v1).length = 256)).bind fun _ =>
  (ck ((v1).length = 256)).bind fun _ =>
  (ck ((v1).length = 256)).bind fun _ =>
  some v1
noncomputable def ref02_Log_l1  (s4 : Int × Int × Int) : Option (Lp (Int × Int × Int) Int) :=
  if (decide (s4.2.2 < 16)) = true then
    if (decide (2147483648 ≤ (((IntKind.i64.wrap (s4.1 * s4.1))).fdiv (2 ^ (min 30 IntKind.i64.bits))))) = true then
      some (.go (((((IntKind.i64.wrap (s4.1 * s4.1))).fdiv (2 ^ (min 30 IntKind.i64.bits)))).fdiv (2 ^ (min 1 IntKind.i64.bits)), IntKind.i64.wrap ((IntKind.i64.wrap (s4.2.1 * 2)) + 1), IntKind.i64.wrap (s4.2.2 + 1)))
    else
      some (.go (((IntKind.i64.wrap (s4.1 * s4.1))).fdiv (2 ^ (min 30 IntKind.i64.bits)), IntKind.i64.wrap (s4.2.1 * 2), IntKind.i64.wrap (s4.2.2 + 1)))
  else
    some (.out s4.2.1)
noncomputable def ref02_Log_l0 (a0 : Int) (s5 : Int) : Option (Lp Int Int) :=
  (ck (¬ s5 < 0)).bind fun _ =>
  if (decide ((IntKind.i64.wrap (2 * 2 ^ (min (Int.toNat s5) IntKind.i64.bits))) ≤ a0)) = true then
    some (.go (IntKind.i64.wrap (s5 + 1)))
  else
    some (.out s5)
noncomputable def ref02_Log (a0 : Int) : Option (Int) :=
  (some ((decide (a0 < 1)) || (decide (1073741824 < a0)))).bind fun v1 =>
  if v1 = true then
    some 0
  else
  (iter (ref02_Log_l0 a0) 0).bind fun v2 =>
  (ck (¬ (IntKind.i64.wrap (30 - v2)) < 0)).bind fun _ =>
  (iter (ref02_Log_l1) (IntKind.i64.wrap (a0 * 2 ^ (min (Int.toNat (IntKind.i64.wrap (30 - v2))) IntKind.i64.bits)), v2, 0)).bind fun v3 =>
  some v3
noncomputable def ref02_Measure_l0 (y1 : (List Int)) (a0 : List Int) (s3 : Int × Int) : Option (Lp (Int × Int) Int) :=
  if (decide (s3.2 < 256)) = true then
    (ck (0 ≤ s3.2 ∧ s3.2 < 256)).bind fun _ =>
    (idx y1 s3.2).bind fun x4 =>
    if (decide (0 < x4)) = true then
      (ck (0 ≤ s3.2 ∧ s3.2 < 256)).bind fun _ =>
      (idx y1 s3.2).bind fun x5 =>
      (ref02_Log ((a0).length : Int)).bind fun y6 =>
      (ck (0 ≤ s3.2 ∧ s3.2 < 256)).bind fun _ =>
      (idx y1 s3.2).bind fun x7 =>
      (ref02_Log x7).bind fun y8 =>
      some (.go (IntKind.i64.wrap (s3.1 + (IntKind.i64.wrap (x5 * (IntKind.i64.wrap (y6 - y8))))), IntKind.i64.wrap (s3.2 + 1)))
    else
      some (.go (s3.1, IntKind.i64.wrap (s3.2 + 1)))
  else
    some (.out s3.1)
noncomputable def ref02_Measure (a0 : List Int) : Option (Int) :=
  if (decide (65536 < ((a0).length : Int))) = true then
    some 0
  else
  (ref02_Counts a0).bind fun y1 =>
  (ck ((y1).length = 256)).bind fun _ =>
  (iter (ref02_Measure_l0 y1 a0) (0, 0)).bind fun v2 =>
  some v2
noncomputable def ref02_Distinct_l0 (y1 : (List Int)) (s3 : Int × Int) : Option (Lp (Int × Int) Int) :=
  if (decide (s3.2 < 256)) = true then
    (ck (0 ≤ s3.2 ∧ s3.2 < 256)).bind fun _ =>
    (idx y1 s3.2).bind fun x4 =>
    if (decide (0 < x4)) = true then
      some (.go (IntKind.i64.wrap (s3.1 + 1), IntKind.i64.wrap (s3.2 + 1)))
    else
      some (.go (s3.1, IntKind.i64.wrap (s3.2 + 1)))
  else
    some (.out s3.1)
noncomputable def ref02_Distinct (a0 : List Int) : Option (Int) :=
  (ref02_Counts a0).bind fun y1 =>
  (ck ((y1).length = 256)).bind fun _ =>
  (iter (ref02_Distinct_l0 y1) (0, 0)).bind fun v2 =>
  some v2
noncomputable def entropy_Mean (a0 : List Int) : Option (Int) :=
  (entropy_Measure a0).bind fun y1 =>
  (ck ((if 1 > ((a0).length : Int) then 1 else ((a0).length : Int)) ≠ 0)).bind fun _ =>
  some (IntKind.i64.wrap ((y1).tdiv (if 1 > ((a0).length : Int) then 1 else ((a0).length : Int))))
noncomputable def ref02_Mean (a0 : List Int) : Option (Int) :=
  if (((a0).length : Int) == 0) = true then
    some 0
  else
  (ref02_Measure a0).bind fun y1 =>
  (ck (((a0).length : Int) ≠ 0)).bind fun _ =>
  some (IntKind.i64.wrap ((y1).tdiv ((a0).length : Int)))
noncomputable def law02_EntropyMeasures_l0 (l3 : List (List Int)) (s6 : Int) : Option (Lp Int (Unit ⊕ Bool)) :=
  if (decide (s6 < ((l3).length : Int))) = true then
    (ck (0 ≤ s6 ∧ (Int.toNat s6) < (l3).length)).bind fun _ =>
    (idx l3 s6).bind fun x7 =>
    if (decide (4000 < ((x7).length : Int))) = true then
      some (.go (IntKind.i64.wrap (s6 + 1)))
    else
    Option.bind (
      (entropy_Counts x7).bind fun y9 =>
      (ref02_Counts x7).bind fun y10 =>
      (ck ((y9).length = 256)).bind fun _ =>
      (ck ((y10).length = 256)).bind fun _ =>
      if (!(y9 == y10)) = true then
        some true
      else
      (entropy_Measure x7).bind fun y11 =>
      (ref02_Measure x7).bind fun y12 =>
      if (y11 != y12) = true then
        some true
      else
      (entropy_Distinct x7).bind fun y13 =>
      (ref02_Distinct x7).bind fun y14 =>
      if (y13 != y14) = true then
        some true
      else
      (entropy_Mean x7).bind fun y15 =>
      (ref02_Mean x7).bind fun y16 =>
      some (y15 != y16)) fun v8 =>
    if v8 = true then
      some (.out (.inr false))
    else
      some (.go (IntKind.i64.wrap (s6 + 1)))
  else
    some (.out (.inl ()))
noncomputable def law02_EntropyMeasures (a0 : List Int) (a1 : List Int) : Option (Bool) :=
  (make_Tape_Next (⟨a0, 0⟩ : make_Tape) 40).bind fun y1 =>
  (make_Bytes y1.2 y1.1).bind fun y2 =>
  (some ([a1, y2.1, []] : List (List Int))).bind fun l3 =>
  (iter (law02_EntropyMeasures_l0 l3) 0).bind fun q18 =>
  match q18 with
  | .inl v4 =>
    (law02_awake).bind fun y5 =>
    some y5
  | .inr r17 =>
    some r17
end Go.Vl
