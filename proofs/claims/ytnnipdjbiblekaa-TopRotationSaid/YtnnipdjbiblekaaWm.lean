/- Plain functions that mirror functions of the given program. Conditions: none. -/
import Derived.Test.YtnnipdjbiblekaaWs
import Derived.Test.YtnnipdjbiblekaaWh
set_option linter.unusedSimpArgs false
set_option linter.unusedVariables false
namespace Go.Vl
open Go
noncomputable def fleet_Check_1 (a0 : api_Consumer) : Option (Bool) :=
  (some ((decide (a0.Pool < 0)) || (decide (7 < a0.Pool)))).bind fun v1 =>
  some v1
noncomputable def slices_IndexFunc_api_Consumer_at_fleet_Check_1_l0 (a0 : List api_Consumer) (s2 : Int) : Option (Lp Int (Unit ⊕ Int)) :=
  if (decide (s2 < ((a0).length : Int))) = true then
    (idx a0 s2).bind fun x3 =>
    (fleet_Check_1 x3).bind fun y4 =>
    if y4 = true then
      some (.out (.inr s2))
    else
      some (.go (IntKind.i64.wrap (s2 + 1)))
  else
    some (.out (.inl ()))
noncomputable def slices_IndexFunc_api_Consumer_at_fleet_Check_1 (a0 : List api_Consumer) : Option (Int) :=
  (iter (slices_IndexFunc_api_Consumer_at_fleet_Check_1_l0 a0) 0).bind fun q6 =>
  match q6 with
  | .inl v1 =>
    some (-1)
  | .inr r5 =>
    some r5
noncomputable def slices_ContainsFunc_api_Consumer_at_fleet_Check_1 (a0 : List api_Consumer) : Option (Bool) :=
  (slices_IndexFunc_api_Consumer_at_fleet_Check_1 a0).bind fun y1 =>
  some (decide (0 ≤ y1))
noncomputable def fleet_Check (a0 : api_Fleet) : Option (Int) :=
  Option.bind (
    if (a0.Slots != 1) = true then
      if (a0.Slots != 2) = true then
        some true
      else
      if (decide (((a0.Consumers).length : Int) < 1)) = true then
        some true
      else
      if (decide (8 < ((a0.Consumers).length : Int))) = true then
        some true
      else
      (slices_ContainsFunc_api_Consumer_at_fleet_Check_1 a0.Consumers).bind fun y2 =>
      some y2
    else
    if (decide (((a0.Consumers).length : Int) < 1)) = true then
      some true
    else
    if (decide (8 < ((a0.Consumers).length : Int))) = true then
      some true
    else
    (slices_ContainsFunc_api_Consumer_at_fleet_Check_1 a0.Consumers).bind fun y3 =>
    some y3) fun v1 =>
  if v1 = true then
    some 36
  else
    some 0
noncomputable def math_bits_Mul32 (a0 : Int) (a1 : Int) : Option (Int × Int) :=
  some (IntKind.u32.wrap (((IntKind.u64.wrap ((IntKind.u64.wrap a0) * (IntKind.u64.wrap a1)))).fdiv (2 ^ (min 32 IntKind.u64.bits))), IntKind.u32.wrap (IntKind.u64.wrap ((IntKind.u64.wrap a0) * (IntKind.u64.wrap a1))))
noncomputable def math_bits_Mul64 (a0 : Int) (a1 : Int) : Option (Int × Int) :=
  some (IntKind.u64.wrap ((IntKind.u64.wrap ((IntKind.u64.wrap (((a0).fdiv (2 ^ (min 32 IntKind.u64.bits))) * ((a1).fdiv (2 ^ (min 32 IntKind.u64.bits))))) + (((IntKind.u64.wrap ((IntKind.u64.wrap (((a0).fdiv (2 ^ (min 32 IntKind.u64.bits))) * (bAnd .u64 a1 4294967295))) + (((IntKind.u64.wrap ((bAnd .u64 a0 4294967295) * (bAnd .u64 a1 4294967295)))).fdiv (2 ^ (min 32 IntKind.u64.bits)))))).fdiv (2 ^ (min 32 IntKind.u64.bits))))) + (((IntKind.u64.wrap ((bAnd .u64 (IntKind.u64.wrap ((IntKind.u64.wrap (((a0).fdiv (2 ^ (min 32 IntKind.u64.bits))) * (bAnd .u64 a1 4294967295))) + (((IntKind.u64.wrap ((bAnd .u64 a0 4294967295) * (bAnd .u64 a1 4294967295)))).fdiv (2 ^ (min 32 IntKind.u64.bits))))) 4294967295) + (IntKind.u64.wrap ((bAnd .u64 a0 4294967295) * ((a1).fdiv (2 ^ (min 32 IntKind.u64.bits)))))))).fdiv (2 ^ (min 32 IntKind.u64.bits)))), IntKind.u64.wrap (a0 * a1))
noncomputable def math_bits_Mul (a0 : Int) (a1 : Int) : Option (Int × Int) :=
  (math_bits_Mul64 a0 a1).bind fun y1 =>
  some (y1.1, y1.2)
noncomputable def slices_Repeat_api_Unit_l0  (s5 : Int × (List api_Unit)) : Option (Lp (Int × (List api_Unit)) (List api_Unit)) :=
  if (decide (s5.1 < ((s5.2).length : Int))) = true then
    (ck (0 ≤ s5.1 ∧ s5.1 ≤ (((s5.2).length : Nat) : Int) ∧ (((s5.2).length : Nat) : Int) ≤ (((s5.2).length : Nat) : Int))).bind fun _ =>
    (ck (0 ≤ 0 ∧ 0 ≤ s5.1 ∧ s5.1 ≤ (((s5.2).length : Nat) : Int))).bind fun _ =>
    (ck (0 + (Int.toNat s5.1) ≤ (s5.2).length)).bind fun _ =>
    (ck ((Int.toNat s5.1) + ((s5.2).length - (Int.toNat s5.1)) ≤ (s5.2).length)).bind fun _ =>
    some (.go (IntKind.i64.wrap (s5.1 + (((min ((s5.2).length - (Int.toNat s5.1)) (Int.toNat s5.1)) : Nat) : Int)), ((s5.2).take (Int.toNat s5.1) ++ ((((s5.2).take (Int.toNat s5.1))).take (min ((s5.2).length - (Int.toNat s5.1)) (Int.toNat s5.1)) ++ (s5.2).drop ((Int.toNat s5.1) + (min ((s5.2).length - (Int.toNat s5.1)) (Int.toNat s5.1)))))))
  else
    some (.out s5.2)
noncomputable def slices_Repeat_api_Unit (a0 : List api_Unit) (a1 : Int) : Option ((List api_Unit)) :=
  if (decide (a1 < 0)) = true then
    none
  else
  (math_bits_Mul (IntKind.u64.wrap ((a0).length : Int)) (IntKind.u64.wrap a1)).bind fun y1 =>
  (some ((decide (0 < y1.1)) || (decide (9223372036854775807 < y1.2)))).bind fun v2 =>
  if v2 = true then
    none
  else
  (ck (0 ≤ IntKind.i64.wrap y1.2 ∧ IntKind.i64.wrap y1.2 ≤ 268435456)).bind fun _ =>
  (some (List.replicate (Int.toNat (IntKind.i64.wrap y1.2)) (⟨false, 0, 0⟩ : api_Unit) : List api_Unit)).bind fun l3 =>
  (iter (slices_Repeat_api_Unit_l0) ((((min ((l3).length) (a0).length) : Nat) : Int), ((a0).take (min ((l3).length) (a0).length) ++ (l3).drop (min ((l3).length) (a0).length)))).bind fun v4 =>
  some v4
noncomputable def fleet_Start (a0 : api_Fleet) : Option (api_Rotation × Int) :=
  (fleet_Check a0).bind fun y1 =>
  if (y1 != 0) = true then
    some ((⟨0, 0, []⟩ : api_Rotation), y1)
  else
  (slices_Repeat_api_Unit [(⟨true, 1, 1⟩ : api_Unit)] ((a0.Consumers).length : Int)).bind fun y2 =>
  some ((⟨1, 1, y2⟩ : api_Rotation), 0)
noncomputable def cmp_isNaN_int (a0 : Int) : Option (Bool) :=
  some (a0 != a0)
noncomputable def cmp_Less_int (a0 : Int) (a1 : Int) : Option (Bool) :=
  Option.bind (
    (cmp_isNaN_int a0).bind fun y2 =>
    if y2 = true then
      (cmp_isNaN_int a1).bind fun y3 =>
      if (!y3) = true then
        some true
      else
        some (decide (a0 < a1))
    else
      some (decide (a0 < a1))) fun v1 =>
  some v1
noncomputable def slices_xorshift_Next (a0 : Int) : Option (Int × Int) :=
  some (bXor .u64 (bXor .u64 (bXor .u64 a0 (IntKind.u64.wrap (a0 * 2 ^ (min 13 IntKind.u64.bits)))) (((bXor .u64 a0 (IntKind.u64.wrap (a0 * 2 ^ (min 13 IntKind.u64.bits))))).fdiv (2 ^ (min 7 IntKind.u64.bits)))) (IntKind.u64.wrap ((bXor .u64 (bXor .u64 a0 (IntKind.u64.wrap (a0 * 2 ^ (min 13 IntKind.u64.bits)))) (((bXor .u64 a0 (IntKind.u64.wrap (a0 * 2 ^ (min 13 IntKind.u64.bits))))).fdiv (2 ^ (min 7 IntKind.u64.bits)))) * 2 ^ (min 17 IntKind.u64.bits))), bXor .u64 (bXor .u64 (bXor .u64 a0 (IntKind.u64.wrap (a0 * 2 ^ (min 13 IntKind.u64.bits)))) (((bXor .u64 a0 (IntKind.u64.wrap (a0 * 2 ^ (min 13 IntKind.u64.bits))))).fdiv (2 ^ (min 7 IntKind.u64.bits)))) (IntKind.u64.wrap ((bXor .u64 (bXor .u64 a0 (IntKind.u64.wrap (a0 * 2 ^ (min 13 IntKind.u64.bits)))) (((bXor .u64 a0 (IntKind.u64.wrap (a0 * 2 ^ (min 13 IntKind.u64.bits))))).fdiv (2 ^ (min 7 IntKind.u64.bits)))) * 2 ^ (min 17 IntKind.u64.bits))))
noncomputable def slices_order2Ordered_int (a0 : List Int) (a1 : Int) (a2 : Int) (a3 : Int) : Option (Int × Int × Int) :=
  (idx a0 a2).bind fun x1 =>
  (idx a0 a1).bind fun x2 =>
  (cmp_Less_int x1 x2).bind fun y3 =>
  if y3 = true then
    some (a2, a1, IntKind.i64.wrap (a3 + 1))
  else
    some (a1, a2, a3)
noncomputable def slices_medianOrdered_int (a0 : List Int) (a1 : Int) (a2 : Int) (a3 : Int) (a4 : Int) : Option (Int × Int) :=
  (slices_order2Ordered_int a0 a1 a2 a4).bind fun y1 =>
  (slices_order2Ordered_int a0 y1.2.1 a3 y1.2.2).bind fun y2 =>
  (slices_order2Ordered_int a0 y1.1 y2.1 y2.2.2).bind fun y3 =>
  some (y3.2.1, y3.2.2)
noncomputable def slices_medianAdjacentOrdered_int (a0 : List Int) (a1 : Int) (a2 : Int) : Option (Int × Int) :=
  (slices_medianOrdered_int a0 (IntKind.i64.wrap (a1 - 1)) a1 (IntKind.i64.wrap (a1 + 1)) a2).bind fun y1 =>
  some (y1.1, y1.2)
noncomputable def slices_choosePivotOrdered_int_j0  (v1 : Int × Int) : Option (Int × Int) :=
  if (v1.2 == 0) = true then
    some (v1.1, 1)
  else
  if (v1.2 == 12) = true then
    some (v1.1, 2)
  else
    some (v1.1, 0)
noncomputable def slices_choosePivotOrdered_int_j1 (a0 : List Int) (v2 : Int × Int × Int × Int) : Option (Int × Int) :=
  (slices_medianOrdered_int a0 v2.1 v2.2.1 v2.2.2.1 v2.2.2.2).bind fun y3 =>
  slices_choosePivotOrdered_int_j0 (y3.1, y3.2)
noncomputable def slices_choosePivotOrdered_int (a0 : List Int) (a1 : Int) (a2 : Int) : Option (Int × Int) :=
  if (decide (8 ≤ (IntKind.i64.wrap (a2 - a1)))) = true then
    if (decide (50 ≤ (IntKind.i64.wrap (a2 - a1)))) = true then
      (slices_medianAdjacentOrdered_int a0 (IntKind.i64.wrap (a1 + (IntKind.i64.wrap ((IntKind.i64.wrap (((IntKind.i64.wrap (a2 - a1))).tdiv 4)) * 1)))) 0).bind fun y4 =>
      (slices_medianAdjacentOrdered_int a0 (IntKind.i64.wrap (a1 + (IntKind.i64.wrap ((IntKind.i64.wrap (((IntKind.i64.wrap (a2 - a1))).tdiv 4)) * 2)))) y4.2).bind fun y5 =>
      (slices_medianAdjacentOrdered_int a0 (IntKind.i64.wrap (a1 + (IntKind.i64.wrap ((IntKind.i64.wrap (((IntKind.i64.wrap (a2 - a1))).tdiv 4)) * 3)))) y5.2).bind fun y6 =>
      slices_choosePivotOrdered_int_j1 a0 (y4.1, y5.1, y6.1, y6.2)
    else
      slices_choosePivotOrdered_int_j1 a0 (IntKind.i64.wrap (a1 + (IntKind.i64.wrap ((IntKind.i64.wrap (((IntKind.i64.wrap (a2 - a1))).tdiv 4)) * 1))), IntKind.i64.wrap (a1 + (IntKind.i64.wrap ((IntKind.i64.wrap (((IntKind.i64.wrap (a2 - a1))).tdiv 4)) * 2))), IntKind.i64.wrap (a1 + (IntKind.i64.wrap ((IntKind.i64.wrap (((IntKind.i64.wrap (a2 - a1))).tdiv 4)) * 3))), 0)
  else
    slices_choosePivotOrdered_int_j0 (IntKind.i64.wrap (a1 + (IntKind.i64.wrap ((IntKind.i64.wrap (((IntKind.i64.wrap (a2 - a1))).tdiv 4)) * 2))), 0)
noncomputable def fleet_Pools_l0 (a0 : api_Fleet) (s5 : Int × (List Int)) : Option (Lp (Int × (List Int)) (List Int)) :=
  if (decide (s5.1 < ((a0.Consumers).length : Int))) = true then
    (idx a0.Consumers s5.1).bind fun x6 =>
    (ck ((s5.2).length + ([x6.Pool]).length ≤ 268435456)).bind fun _ =>
    some (.go (IntKind.i64.wrap (s5.1 + 1), (s5.2 ++ [x6.Pool])))
  else
    some (.out s5.2)
noncomputable def fleet_Pools (a0 : api_Fleet) : Option ((List Int)) :=
  (fleet_Check a0).bind fun y1 =>
  if (y1 != 0) = true then
    some []
  else
  (iter (fleet_Pools_l0 a0) (0, [])).bind fun v2 =>
  (slices_Sort_int_vec0 v2).bind fun y3 =>
  (slices_Compact_int_eat0_own0 y3).bind fun y4 =>
  some y4
noncomputable def fleet_Units_l0 (a0 : api_Fleet) (a1 : Int) (s3 : Int × (List Int)) : Option (Lp (Int × (List Int)) (List Int)) :=
  if (decide (s3.1 < ((a0.Consumers).length : Int))) = true then
    (idx a0.Consumers s3.1).bind fun x4 =>
    if (x4.Pool == a1) = true then
      (ck ((s3.2).length + ([s3.1]).length ≤ 268435456)).bind fun _ =>
      some (.go (IntKind.i64.wrap (s3.1 + 1), (s3.2 ++ [s3.1])))
    else
      some (.go (IntKind.i64.wrap (s3.1 + 1), s3.2))
  else
    some (.out s3.2)
noncomputable def fleet_Units (a0 : api_Fleet) (a1 : Int) : Option ((List Int)) :=
  (fleet_Check a0).bind fun y1 =>
  if (y1 != 0) = true then
    some []
  else
  (iter (fleet_Units_l0 a0 a1) (0, [])).bind fun v2 =>
  some v2
noncomputable def plan_Fit (a0 : api_Fleet) (a1 : Int) : Option (Bool) :=
  (fleet_Units a0 a1).bind fun y1 =>
  if (((y1).length : Int) != 1) = true then
    some (decide (1 < ((y1).length : Int)))
  else
  (idx y1 0).bind fun x2 =>
  (idx a0.Consumers x2).bind fun x3 =>
  (some (x3.Live && (x3.Dual || (a0.Slots == 2)))).bind fun v4 =>
  some v4
noncomputable def plan_Why_l0 (y1 : (List Int)) (a0 : api_Fleet) (s3 : Int) : Option (Lp Int (Unit ⊕ (api_Hindrance × Bool))) :=
  if (decide (s3 < ((y1).length : Int))) = true then
    (idx y1 s3).bind fun x4 =>
    (plan_Fit a0 x4).bind fun y5 =>
    if (!y5) = true then
      some (.out (.inr ((⟨x4⟩ : api_Hindrance), true)))
    else
      some (.go (IntKind.i64.wrap (s3 + 1)))
  else
    some (.out (.inl ()))
noncomputable def plan_Why (a0 : api_Fleet) : Option (api_Hindrance × Bool) :=
  (fleet_Pools a0).bind fun y1 =>
  (iter (plan_Why_l0 y1 a0) 0).bind fun q7 =>
  match q7 with
  | .inl v2 =>
    some ((⟨0⟩ : api_Hindrance), false)
  | .inr r6 =>
    some r6
noncomputable def fleet_bits (a0 : Int) (a1 : Int) (a2 : Bool) : Option (Bool) :=
  (some ((decide (0 < a0)) && ((decide (a0 ≤ 3)) && (((bAndNot .i64 a0 a1) == 0) && (a2 || (a0 != 3)))))).bind fun v1 =>
  some v1
noncomputable def fleet_unit (a0 : api_Consumer) (a1 : api_Unit) (a2 : Int) : Option (Bool) :=
  (fleet_bits a1.Stored a2 a0.Dual).bind fun y1 =>
  if (!y1) = true then
    some false
  else
  if (!a1.Up) = true then
    some (a1.Used == 0)
  else
  Option.bind (
    (fleet_bits a1.Used a2 a0.Dual).bind fun y3 =>
    if y3 = true then
      if (!a0.Live) = true then
        some true
      else
        some (a1.Used == a1.Stored)
    else
      some false) fun v2 =>
  some v2
noncomputable def fleet_Right_l0 (a1 : api_Rotation) (a0 : api_Fleet) (s3 : Int) : Option (Lp Int (Unit ⊕ Bool)) :=
  if (decide (s3 < ((a1.Units).length : Int))) = true then
    (idx a1.Units s3).bind fun x4 =>
    (idx a0.Consumers s3).bind fun x5 =>
    (fleet_unit x5 x4 a1.Known).bind fun y6 =>
    if (!y6) = true then
      some (.out (.inr false))
    else
      some (.go (IntKind.i64.wrap (s3 + 1)))
  else
    some (.out (.inl ()))
noncomputable def fleet_Right (a0 : api_Fleet) (a1 : api_Rotation) : Option (Bool) :=
  Option.bind (
    (fleet_Check a0).bind fun y9 =>
    if (y9 != 0) = true then
      some true
    else
    if (a1.Known != 1) = true then
      if (a1.Known != 3) = true then
        some true
      else
      (fleet_bits a1.Valid a1.Known (a0.Slots == 2)).bind fun y10 =>
      if (!y10) = true then
        some true
      else
        some (((a1.Units).length : Int) != ((a0.Consumers).length : Int))
    else
    (fleet_bits a1.Valid a1.Known (a0.Slots == 2)).bind fun y11 =>
    if (!y11) = true then
      some true
    else
      some (((a1.Units).length : Int) != ((a0.Consumers).length : Int))) fun v1 =>
  if v1 = true then
    some false
  else
  (iter (fleet_Right_l0 a1 a0) 0).bind fun q8 =>
  match q8 with
  | .inl v2 =>
    some true
  | .inr r7 =>
    some r7
noncomputable def slices_Clone_api_Unit (a0 : List api_Unit) : Option (List api_Unit) :=
  (ck ((a0).length ≤ 268435456)).bind fun _ =>
  some a0
noncomputable def fleet_Copy (a0 : api_Rotation) : Option (api_Rotation) :=
  (slices_Clone_api_Unit a0.Units).bind fun y1 =>
  some (⟨a0.Known, a0.Valid, y1⟩ : api_Rotation)
noncomputable def steps_change_j0 (a0 : api_Consumer) (a1 : api_Unit) (v1 : Bool × Int) : Option (Bool × api_Unit) :=
  (some (a0.Live && a1.Up)).bind fun v2 =>
  if v2 = true then
    some (v1.1, (⟨a1.Up, v1.2, v1.2⟩ : api_Unit))
  else
    some (v1.1, (⟨a1.Up, v1.2, a1.Used⟩ : api_Unit))
noncomputable def steps_change (a0 : api_Consumer) (a1 : api_Unit) (a2 : Int) (a3 : Bool) : Option (Bool × api_Unit) :=
  if (a2 == 4) = true then
    (some (a3 && (a1.Stored == 1))).bind fun v3 =>
    if a0.Dual = true then
      steps_change_j0 a0 a1 (v3, 3)
    else
      steps_change_j0 a0 a1 (v3, 2)
  else
  if (a2 == 7) = true then
    steps_change_j0 a0 a1 ((a1.Stored == 3), 2)
  else
  if (a2 == 5) = true then
    some (a1.Up, (⟨false, a1.Stored, 0⟩ : api_Unit))
  else
  if (a2 == 6) = true then
    some ((!a1.Up), (⟨true, a1.Stored, a1.Stored⟩ : api_Unit))
  else
    steps_change_j0 a0 a1 (false, a1.Stored)
noncomputable def slices_Clone_api_Unit_own0 (a0 : List api_Unit) : Option (List api_Unit) :=
  (ck ((a0).length ≤ 268435456 ∧ 0 < (a0).length)).bind fun _ =>
  some a0
noncomputable def fleet_Copy_own2 (a0 : api_Rotation) : Option (api_Rotation) :=
  (slices_Clone_api_Unit_own0 a0.Units).bind fun y1 =>
  some (⟨a0.Known, a0.Valid, y1⟩ : api_Rotation)
noncomputable def steps_change_el1_2_j0 (a0 : api_Consumer) (a1 : Int) (g1 : api_Rotation) (v1 : Bool × (List api_Unit)) : Option (Bool × api_Rotation) :=
  Option.bind (
    if a0.Live = true then
      (idx v1.2 a1).bind fun x4 =>
      some x4.Up
    else
      some false) fun v2 =>
  if v2 = true then
    (idx v1.2 a1).bind fun x3 =>
    some (v1.1, (⟨g1.Known, g1.Valid, (v1.2.set (Int.toNat a1) (⟨x3.Up, x3.Stored, x3.Stored⟩ : api_Unit))⟩ : api_Rotation))
  else
    some (v1.1, (⟨g1.Known, g1.Valid, v1.2⟩ : api_Rotation))
noncomputable def steps_change_el1_2 (a0 : api_Consumer) (g1 : api_Rotation) (a1 : Int) (a2 : Int) (a3 : Bool) : Option (Bool × api_Rotation) :=
  if (a2 == 4) = true then
    Option.bind (
      if a3 = true then
        (idx g1.Units a1).bind fun x7 =>
        some (x7.Stored == 1)
      else
        some false) fun v5 =>
    (idx g1.Units a1).bind fun x6 =>
    if a0.Dual = true then
      steps_change_el1_2_j0 a0 a1 g1 (v5, (g1.Units.set (Int.toNat a1) (⟨x6.Up, 3, x6.Used⟩ : api_Unit)))
    else
      steps_change_el1_2_j0 a0 a1 g1 (v5, (g1.Units.set (Int.toNat a1) (⟨x6.Up, 2, x6.Used⟩ : api_Unit)))
  else
  if (a2 == 7) = true then
    (idx g1.Units a1).bind fun x8 =>
    steps_change_el1_2_j0 a0 a1 g1 ((x8.Stored == 3), (g1.Units.set (Int.toNat a1) (⟨x8.Up, 2, x8.Used⟩ : api_Unit)))
  else
  if (a2 == 5) = true then
    (idx g1.Units a1).bind fun x9 =>
    some (x9.Up, (⟨g1.Known, g1.Valid, (g1.Units.set (Int.toNat a1) (⟨false, x9.Stored, 0⟩ : api_Unit))⟩ : api_Rotation))
  else
  if (a2 == 6) = true then
    (idx g1.Units a1).bind fun x10 =>
    some ((!x10.Up), (⟨g1.Known, g1.Valid, (g1.Units.set (Int.toNat a1) (⟨true, x10.Stored, x10.Stored⟩ : api_Unit))⟩ : api_Rotation))
  else
    steps_change_el1_2_j0 a0 a1 g1 (false, g1.Units)
noncomputable def steps_step_o1_2 (a0 : api_Fleet) (a1 : api_Rotation) (a2 : api_Step) : Option (Bool × api_Rotation) :=
  if (a2.Kind == 1) = true then
    some ((!((bAnd .i64 a1.Known 2) != 0)), (⟨bOr .i64 a1.Known 2, a1.Valid, a1.Units⟩ : api_Rotation))
  else
  if (a2.Kind == 2) = true then
    (some (((bAnd .i64 a1.Known 2) != 0) && ((a1.Valid == 1) && (a0.Slots == 2)))).bind fun v1 =>
    some (v1, (⟨a1.Known, 3, a1.Units⟩ : api_Rotation))
  else
  if (a2.Kind == 3) = true then
    (some (((bAnd .i64 a1.Known 2) != 0) && (a1.Valid == 1))).bind fun v2 =>
    some (v2, (⟨a1.Known, 2, a1.Units⟩ : api_Rotation))
  else
  if (a2.Kind == 8) = true then
    some ((a1.Valid == 3), (⟨a1.Known, 2, a1.Units⟩ : api_Rotation))
  else
  (idx a0.Consumers a2.Unit).bind fun x3 =>
  (ck (0 ≤ a2.Unit ∧ (Int.toNat a2.Unit) < (a1.Units).length)).bind fun _ =>
  (steps_change_el1_2 x3 a1 a2.Unit a2.Kind ((bAnd .i64 a1.Known 2) != 0)).bind fun y4 =>
  some (y4.1, y4.2)
noncomputable def steps_Apply (a0 : api_Fleet) (a1 : api_Rotation) (a2 : api_Step) : Option (api_Rotation × Int) :=
  (some (bif (decide (1 ≤ a2.Kind)) then ((decide (a2.Kind ≤ 3)) || (a2.Kind == 8)) else (a2.Kind == 8))).bind fun v1 =>
  (fleet_Right a0 a1).bind fun y2 =>
  if (!y2) = true then
    some ((⟨0, 0, []⟩ : api_Rotation), 36)
  else
  (some ((decide (a2.Kind < 1)) || ((decide (8 < a2.Kind)) || ((decide (a2.Unit < 0)) || ((decide (((a1.Units).length : Int) ≤ a2.Unit)) || (v1 && (a2.Unit != 0))))))).bind fun v3 =>
  if v3 = true then
    some ((⟨0, 0, []⟩ : api_Rotation), 2)
  else
  (fleet_Copy_own2 a1).bind fun y4 =>
  (steps_step_o1_2 a0 y4 a2).bind fun y5 =>
  if (!y5.1) = true then
    some ((⟨0, 0, []⟩ : api_Rotation), 37)
  else
    some (y5.2, 0)
noncomputable def plan_planner_serving_l0 (y1 : (List Int)) (a0 : plan_planner) (a2 : Int) (s3 : Int) : Option (Lp Int (Unit ⊕ (Int × Bool × plan_planner))) :=
  if (decide (s3 < ((y1).length : Int))) = true then
    (idx y1 s3).bind fun x4 =>
    (idx a0.state.Units x4).bind fun x5 =>
    if ((bAnd .i64 x5.Used a2) != 0) = true then
      some (.out (.inr (x4, true, a0)))
    else
      some (.go (IntKind.i64.wrap (s3 + 1)))
  else
    some (.out (.inl ()))
noncomputable def plan_planner_serving (a0 : plan_planner) (a1 : Int) (a2 : Int) : Option (Int × Bool × plan_planner) :=
  (fleet_Units a0.fleet a1).bind fun y1 =>
  (iter (plan_planner_serving_l0 y1 a0 a2) 0).bind fun q7 =>
  match q7 with
  | .inl v2 =>
    some (0, false, a0)
  | .inr r6 =>
    some r6
noncomputable def plan_planner_prepare_1_cb (a0 : Int) (a1 : Int) : Option (Bool × Int) :=
  some ((a0 != a1), a1)
noncomputable def slices_IndexFunc_int_at_plan_planner_prepare_1_b_l0 (a0 : List Int) (s2 : Int × Int) : Option (Lp (Int × Int) (Int ⊕ (Int × Int))) :=
  if (decide (s2.1 < ((a0).length : Int))) = true then
    (idx a0 s2.1).bind fun x3 =>
    (plan_planner_prepare_1_cb x3 s2.2).bind fun y4 =>
    if y4.1 = true then
      some (.out (.inr (s2.1, y4.2)))
    else
      some (.go (IntKind.i64.wrap (s2.1 + 1), y4.2))
  else
    some (.out (.inl s2.2))
noncomputable def slices_IndexFunc_int_at_plan_planner_prepare_1_b (a0 : List Int) (b10 : Int) : Option (Int × Int) :=
  (iter (slices_IndexFunc_int_at_plan_planner_prepare_1_b_l0 a0) (0, b10)).bind fun q6 =>
  match q6 with
  | .inl v1 =>
    some ((-1), v1)
  | .inr r5 =>
    some r5
noncomputable def plan_planner_do_o0_5 (a0 : plan_planner) (a1 : Int) (a2 : Int) : Option (plan_planner) :=
  (steps_Apply a0.fleet a0.state (⟨a1, a2⟩ : api_Step)).bind fun y1 =>
  if (y1.2 == 0) = true then
    (ck ((a0.out).length + ([(⟨a1, a2⟩ : api_Step)]).length ≤ 268435456)).bind fun _ =>
    some (⟨a0.fleet, y1.1, (a0.out ++ [(⟨a1, a2⟩ : api_Step)])⟩ : plan_planner)
  else
    some a0
noncomputable def plan_planner_serving_o0_5_l0 (y1 : (List Int)) (a0 : plan_planner) (a2 : Int) (s3 : Int) : Option (Lp Int (Unit ⊕ (Int × Bool × plan_planner))) :=
  if (decide (s3 < ((y1).length : Int))) = true then
    (idx y1 s3).bind fun x4 =>
    (idx a0.state.Units x4).bind fun x5 =>
    if ((bAnd .i64 x5.Used a2) != 0) = true then
      some (.out (.inr (x4, true, a0)))
    else
      some (.go (IntKind.i64.wrap (s3 + 1)))
  else
    some (.out (.inl ()))
noncomputable def plan_planner_serving_o0_5 (a0 : plan_planner) (a1 : Int) (a2 : Int) : Option (Int × Bool × plan_planner) :=
  (fleet_Units a0.fleet a1).bind fun y1 =>
  (iter (plan_planner_serving_o0_5_l0 y1 a0 a2) 0).bind fun q7 =>
  match q7 with
  | .inl v2 =>
    some (0, false, a0)
  | .inr r6 =>
    some r6
noncomputable def plan_planner_mend_o0_5_j0 (a1 : Int) (v3 : Int × (List api_Consumer) × Int × Int × (List api_Unit) × (List api_Step)) : Option plan_planner :=
  (plan_planner_do_o0_5 (⟨(⟨v3.1, v3.2.1⟩ : api_Fleet), (⟨v3.2.2.1, v3.2.2.2.1, v3.2.2.2.2.1⟩ : api_Rotation), v3.2.2.2.2.2⟩ : plan_planner) 6 a1).bind fun y4 =>
  some y4
noncomputable def plan_planner_mend_o0_5 (a0 : plan_planner) (a1 : Int) : Option (plan_planner) :=
  (plan_planner_do_o0_5 a0 4 a1).bind fun y1 =>
  (plan_planner_do_o0_5 y1 7 a1).bind fun y2 =>
  (idx y2.state.Units a1).bind fun x5 =>
  if (x5.Used != 2) = true then
    (plan_planner_do_o0_5 y2 5 a1).bind fun y6 =>
    plan_planner_mend_o0_5_j0 a1 (y6.fleet.Slots, y6.fleet.Consumers, y6.state.Known, y6.state.Valid, y6.state.Units, y6.out)
  else
    plan_planner_mend_o0_5_j0 a1 (y2.fleet.Slots, y2.fleet.Consumers, y2.state.Known, y2.state.Valid, y2.state.Units, y2.out)
noncomputable def plan_planner_prepare_o0_5 (a0 : plan_planner) (a1 : Int) : Option (plan_planner) :=
  (plan_planner_serving_o0_5 a0 a1 2).bind fun y1 =>
  if y1.2.1 = true then
    some y1.2.2
  else
  (plan_planner_serving_o0_5 y1.2.2 a1 1).bind fun y2 =>
  (fleet_Units y2.2.2.fleet a1).bind fun y3 =>
  (slices_IndexFunc_int_at_plan_planner_prepare_1_b y3 y2.1).bind fun y4 =>
  if (decide (0 ≤ y4.1)) = true then
    (idx y3 y4.1).bind fun x5 =>
    (plan_planner_mend_o0_5 y2.2.2 x5).bind fun y6 =>
    some y6
  else
  (plan_planner_do_o0_5 y2.2.2 4 y4.2).bind fun y7 =>
  some y7
noncomputable def plan_planner_settle_o0_5_l0 (y2 : (List Int)) (y1 : Int × Bool × plan_planner) (s5 : Int × Int × (List api_Consumer) × Int × Int × (List api_Unit) × (List api_Step)) : Option (Lp (Int × Int × (List api_Consumer) × Int × Int × (List api_Unit) × (List api_Step)) (Int × (List api_Consumer) × Int × Int × (List api_Unit) × (List api_Step))) :=
  if (decide (s5.1 < ((y2).length : Int))) = true then
    (idx y2 s5.1).bind fun x6 =>
    if (x6 != y1.1) = true then
      (plan_planner_mend_o0_5 (⟨(⟨s5.2.1, s5.2.2.1⟩ : api_Fleet), (⟨s5.2.2.2.1, s5.2.2.2.2.1, s5.2.2.2.2.2.1⟩ : api_Rotation), s5.2.2.2.2.2.2⟩ : plan_planner) x6).bind fun y7 =>
      some (.go (IntKind.i64.wrap (s5.1 + 1), y7.fleet.Slots, y7.fleet.Consumers, y7.state.Known, y7.state.Valid, y7.state.Units, y7.out))
    else
      some (.go (IntKind.i64.wrap (s5.1 + 1), s5.2.1, s5.2.2.1, s5.2.2.2.1, s5.2.2.2.2.1, s5.2.2.2.2.2.1, s5.2.2.2.2.2.2))
  else
    some (.out (s5.2.1, s5.2.2.1, s5.2.2.2.1, s5.2.2.2.2.1, s5.2.2.2.2.2.1, s5.2.2.2.2.2.2))
noncomputable def plan_planner_settle_o0_5 (a0 : plan_planner) (a1 : Int) : Option (plan_planner) :=
  (plan_planner_serving_o0_5 a0 a1 a0.state.Valid).bind fun y1 =>
  (fleet_Units y1.2.2.fleet a1).bind fun y2 =>
  (iter (plan_planner_settle_o0_5_l0 y2 y1) (0, y1.2.2.fleet.Slots, y1.2.2.fleet.Consumers, y1.2.2.state.Known, y1.2.2.state.Valid, y1.2.2.state.Units, y1.2.2.out)).bind fun v3 =>
  (plan_planner_mend_o0_5 (⟨(⟨v3.1, v3.2.1⟩ : api_Fleet), (⟨v3.2.2.1, v3.2.2.2.1, v3.2.2.2.2.1⟩ : api_Rotation), v3.2.2.2.2.2⟩ : plan_planner) y1.1).bind fun y4 =>
  some y4
noncomputable def plan_From_l1 (y1 : (List Int)) (s7 : Int × Int × (List api_Consumer) × Int × Int × (List api_Unit) × (List api_Step)) : Option (Lp (Int × Int × (List api_Consumer) × Int × Int × (List api_Unit) × (List api_Step)) (Int × (List api_Consumer) × Int × Int × (List api_Unit) × (List api_Step))) :=
  if (decide (s7.1 < ((y1).length : Int))) = true then
    (idx y1 s7.1).bind fun x8 =>
    (plan_planner_settle_o0_5 (⟨(⟨s7.2.1, s7.2.2.1⟩ : api_Fleet), (⟨s7.2.2.2.1, s7.2.2.2.2.1, s7.2.2.2.2.2.1⟩ : api_Rotation), s7.2.2.2.2.2.2⟩ : plan_planner) x8).bind fun y9 =>
    some (.go (IntKind.i64.wrap (s7.1 + 1), y9.fleet.Slots, y9.fleet.Consumers, y9.state.Known, y9.state.Valid, y9.state.Units, y9.out))
  else
    some (.out (s7.2.1, s7.2.2.1, s7.2.2.2.1, s7.2.2.2.2.1, s7.2.2.2.2.2.1, s7.2.2.2.2.2.2))
noncomputable def plan_From_j0 (y1 : (List Int)) (v4 : Int × (List api_Consumer) × Int × Int × (List api_Unit) × (List api_Step)) : Option (List api_Step) :=
  (iter (plan_From_l1 y1) (0, v4.1, v4.2.1, v4.2.2.1, v4.2.2.2.1, v4.2.2.2.2.1, v4.2.2.2.2.2)).bind fun v5 =>
  (plan_planner_do_o0_5 (⟨(⟨v5.1, v5.2.1⟩ : api_Fleet), (⟨v5.2.2.1, v5.2.2.2.1, v5.2.2.2.2.1⟩ : api_Rotation), v5.2.2.2.2.2⟩ : plan_planner) 8 0).bind fun y6 =>
  some y6.out
noncomputable def plan_From_l2 (y1 : (List Int)) (s12 : Int × Int × (List api_Consumer) × Int × Int × (List api_Unit) × (List api_Step)) : Option (Lp (Int × Int × (List api_Consumer) × Int × Int × (List api_Unit) × (List api_Step)) (Int × (List api_Consumer) × Int × Int × (List api_Unit) × (List api_Step))) :=
  if (decide (s12.1 < ((y1).length : Int))) = true then
    (idx y1 s12.1).bind fun x13 =>
    (plan_planner_prepare_o0_5 (⟨(⟨s12.2.1, s12.2.2.1⟩ : api_Fleet), (⟨s12.2.2.2.1, s12.2.2.2.2.1, s12.2.2.2.2.2.1⟩ : api_Rotation), s12.2.2.2.2.2.2⟩ : plan_planner) x13).bind fun y14 =>
    some (.go (IntKind.i64.wrap (s12.1 + 1), y14.fleet.Slots, y14.fleet.Consumers, y14.state.Known, y14.state.Valid, y14.state.Units, y14.out))
  else
    some (.out (s12.2.1, s12.2.2.1, s12.2.2.2.1, s12.2.2.2.2.1, s12.2.2.2.2.2.1, s12.2.2.2.2.2.2))
noncomputable def plan_From (a0 : api_Fleet) (a1 : api_Rotation) : Option ((List api_Step)) :=
  (fleet_Pools a0).bind fun y1 =>
  (plan_planner_do_o0_5 (⟨a0, a1, []⟩ : plan_planner) 1 0).bind fun y2 =>
  (plan_planner_do_o0_5 y2 2 0).bind fun y3 =>
  if (y3.state.Valid == 1) = true then
    (iter (plan_From_l2 y1) (0, y3.fleet.Slots, y3.fleet.Consumers, y3.state.Known, y3.state.Valid, y3.state.Units, y3.out)).bind fun v10 =>
    (plan_planner_do_o0_5 (⟨(⟨v10.1, v10.2.1⟩ : api_Fleet), (⟨v10.2.2.1, v10.2.2.2.1, v10.2.2.2.2.1⟩ : api_Rotation), v10.2.2.2.2.2⟩ : plan_planner) 3 0).bind fun y11 =>
    plan_From_j0 y1 (y11.fleet.Slots, y11.fleet.Consumers, y11.state.Known, y11.state.Valid, y11.state.Units, y11.out)
  else
    plan_From_j0 y1 (y3.fleet.Slots, y3.fleet.Consumers, y3.state.Known, y3.state.Valid, y3.state.Units, y3.out)
noncomputable def plan_Make (a0 : api_Fleet) : Option ((List api_Step) × Int) :=
  (fleet_Start a0).bind fun y1 =>
  if (y1.2 != 0) = true then
    some ([], y1.2)
  else
  (plan_Why a0).bind fun y2 =>
  if y2.2 = true then
    some ([], 38)
  else
  (plan_From a0 y1.1).bind fun y3 =>
  some (y3, 0)
noncomputable def steps_check (a0 : api_Fleet) (a1 : api_Rotation) (a2 : List api_Step) : Option (Int) :=
  (fleet_Right a0 a1).bind fun y1 =>
  if (!y1) = true then
    some 36
  else
  if (decide (120 < ((a2).length : Int))) = true then
    some 3
  else
    some 0
noncomputable def fleet_Served_l0 (a0 : api_Fleet) (a1 : api_Rotation) (s5 : Int × (List Int)) : Option (Lp (Int × (List Int)) (List Int)) :=
  if (decide (s5.1 < ((a0.Consumers).length : Int))) = true then
    (idx a0.Consumers s5.1).bind fun x6 =>
    (idx a1.Units s5.1).bind fun x7 =>
    if ((bAnd .i64 x7.Used a1.Valid) != 0) = true then
      (ck ((s5.2).length + ([x6.Pool]).length ≤ 268435456)).bind fun _ =>
      some (.go (IntKind.i64.wrap (s5.1 + 1), (s5.2 ++ [x6.Pool])))
    else
      some (.go (IntKind.i64.wrap (s5.1 + 1), s5.2))
  else
    some (.out s5.2)
noncomputable def fleet_Served (a0 : api_Fleet) (a1 : api_Rotation) : Option ((List Int)) :=
  (fleet_Right a0 a1).bind fun y1 =>
  if (!y1) = true then
    some []
  else
  (iter (fleet_Served_l0 a0 a1) (0, [])).bind fun v2 =>
  (slices_Sort_int_vec0 v2).bind fun y3 =>
  (slices_Compact_int_eat0_own0 y3).bind fun y4 =>
  some y4
noncomputable def slices_Index_int_l0 (a0 : List Int) (a1 : Int) (s2 : Int) : Option (Lp Int (Unit ⊕ Int)) :=
  if (decide (s2 < ((a0).length : Int))) = true then
    (idx a0 s2).bind fun x3 =>
    if (a1 == x3) = true then
      some (.out (.inr s2))
    else
      some (.go (IntKind.i64.wrap (s2 + 1)))
  else
    some (.out (.inl ()))
noncomputable def slices_Index_int (a0 : List Int) (a1 : Int) : Option (Int) :=
  (iter (slices_Index_int_l0 a0 a1) 0).bind fun q5 =>
  match q5 with
  | .inl v1 =>
    some (-1)
  | .inr r4 =>
    some r4
noncomputable def slices_Contains_int (a0 : List Int) (a1 : Int) : Option (Bool) :=
  (slices_Index_int a0 a1).bind fun y1 =>
  some (decide (0 ≤ y1))
noncomputable def steps_holds_1_cb (a0 : Int) (a1 : List Int) : Option (Bool × (List Int)) :=
  (slices_Contains_int a1 a0).bind fun y1 =>
  some ((!y1), a1)
noncomputable def slices_IndexFunc_int_at_steps_holds_1_b_l0 (a0 : List Int) (s2 : Int × (List Int)) : Option (Lp (Int × (List Int)) ((List Int) ⊕ (Int × (List Int)))) :=
  if (decide (s2.1 < ((a0).length : Int))) = true then
    (idx a0 s2.1).bind fun x3 =>
    (steps_holds_1_cb x3 s2.2).bind fun y4 =>
    if y4.1 = true then
      some (.out (.inr (s2.1, y4.2)))
    else
      some (.go (IntKind.i64.wrap (s2.1 + 1), y4.2))
  else
    some (.out (.inl s2.2))
noncomputable def slices_IndexFunc_int_at_steps_holds_1_b (a0 : List Int) (b10 : List Int) : Option (Int × (List Int)) :=
  (iter (slices_IndexFunc_int_at_steps_holds_1_b_l0 a0) (0, b10)).bind fun q6 =>
  match q6 with
  | .inl v1 =>
    some ((-1), v1)
  | .inr r5 =>
    some r5
noncomputable def slices_ContainsFunc_int_at_steps_holds_1_b (a0 : List Int) (b10 : List Int) : Option (Bool × (List Int)) :=
  (slices_IndexFunc_int_at_steps_holds_1_b a0 b10).bind fun y1 =>
  some ((decide (0 ≤ y1.1)), y1.2)
noncomputable def steps_holds (a0 : api_Fleet) (a1 : api_Rotation) (a2 : api_Rotation) : Option (Bool) :=
  (fleet_Served a0 a2).bind fun y1 =>
  (fleet_Served a0 a1).bind fun y2 =>
  (slices_ContainsFunc_int_at_steps_holds_1_b y2 y1).bind fun y3 =>
  some (!y3.1)
noncomputable def steps_Fault_l0 (a2 : List api_Step) (a0 : api_Fleet) (s3 : Int × Int × Int × (List api_Unit)) : Option (Lp (Int × Int × Int × (List api_Unit)) (Unit ⊕ (Int × Int))) :=
  if (decide (s3.1 < ((a2).length : Int))) = true then
    (idx a2 s3.1).bind fun x4 =>
    (steps_Apply a0 (⟨s3.2.1, s3.2.2.1, s3.2.2.2⟩ : api_Rotation) x4).bind fun y5 =>
    if (y5.2 != 0) = true then
      some (.out (.inr (s3.1, y5.2)))
    else
    (steps_holds a0 (⟨s3.2.1, s3.2.2.1, s3.2.2.2⟩ : api_Rotation) y5.1).bind fun y6 =>
    if (!y6) = true then
      some (.out (.inr (s3.1, 38)))
    else
      some (.go (IntKind.i64.wrap (s3.1 + 1), y5.1.Known, y5.1.Valid, y5.1.Units))
  else
    some (.out (.inl ()))
noncomputable def steps_Fault (a0 : api_Fleet) (a1 : api_Rotation) (a2 : List api_Step) : Option (Int × Int) :=
  (steps_check a0 a1 a2).bind fun y1 =>
  if (y1 != 0) = true then
    some (0, y1)
  else
  (iter (steps_Fault_l0 a2 a0) (0, a1.Known, a1.Valid, a1.Units)).bind fun q8 =>
  match q8 with
  | .inl v2 =>
    some (((a2).length : Int), 0)
  | .inr r7 =>
    some r7
noncomputable def steps_Run_l0 (a2 : List api_Step) (a0 : api_Fleet) (s3 : Int × Int × Int × (List api_Unit) × (List api_Rotation)) : Option (Lp (Int × Int × Int × (List api_Unit) × (List api_Rotation)) ((List api_Rotation) ⊕ ((List api_Rotation) × Int))) :=
  if (decide (s3.1 < ((a2).length : Int))) = true then
    (idx a2 s3.1).bind fun x4 =>
    (steps_Apply a0 (⟨s3.2.1, s3.2.2.1, s3.2.2.2.1⟩ : api_Rotation) x4).bind fun y5 =>
    if (y5.2 != 0) = true then
      some (.out (.inr ([], y5.2)))
    else
    (ck ((s3.2.2.2.2).length + ([y5.1]).length ≤ 268435456)).bind fun _ =>
    some (.go (IntKind.i64.wrap (s3.1 + 1), y5.1.Known, y5.1.Valid, y5.1.Units, (s3.2.2.2.2 ++ [y5.1])))
  else
    some (.out (.inl s3.2.2.2.2))
noncomputable def steps_Run (a0 : api_Fleet) (a1 : api_Rotation) (a2 : List api_Step) : Option ((List api_Rotation) × Int) :=
  (steps_check a0 a1 a2).bind fun y1 =>
  if (y1 != 0) = true then
    some ([], y1)
  else
  (iter (steps_Run_l0 a2 a0) (0, a1.Known, a1.Valid, a1.Units, [])).bind fun q7 =>
  match q7 with
  | .inl v2 =>
    some (v2, 0)
  | .inr r6 =>
    some r6
noncomputable def fleet_Ended_1_cb (a0 : api_Unit) (a1 : api_Unit) : Option (Bool × api_Unit) :=
  some ((!((a0.Up == a1.Up) && ((a0.Stored == a1.Stored) && (a0.Used == a1.Used)))), a1)
noncomputable def slices_IndexFunc_api_Unit_at_fleet_Ended_1_b_l0 (a0 : List api_Unit) (s2 : Int × Bool × Int × Int) : Option (Lp (Int × Bool × Int × Int) ((Bool × Int × Int) ⊕ (Int × api_Unit))) :=
  if (decide (s2.1 < ((a0).length : Int))) = true then
    (idx a0 s2.1).bind fun x3 =>
    (fleet_Ended_1_cb x3 (⟨s2.2.1, s2.2.2.1, s2.2.2.2⟩ : api_Unit)).bind fun y4 =>
    if y4.1 = true then
      some (.out (.inr (s2.1, y4.2)))
    else
      some (.go (IntKind.i64.wrap (s2.1 + 1), y4.2.Up, y4.2.Stored, y4.2.Used))
  else
    some (.out (.inl (s2.2.1, s2.2.2.1, s2.2.2.2)))
noncomputable def slices_IndexFunc_api_Unit_at_fleet_Ended_1_b (a0 : List api_Unit) (b10 : api_Unit) : Option (Int × api_Unit) :=
  (iter (slices_IndexFunc_api_Unit_at_fleet_Ended_1_b_l0 a0) (0, b10.Up, b10.Stored, b10.Used)).bind fun q6 =>
  match q6 with
  | .inl v1 =>
    some ((-1), (⟨v1.1, v1.2.1, v1.2.2⟩ : api_Unit))
  | .inr r5 =>
    some r5
noncomputable def slices_ContainsFunc_api_Unit_at_fleet_Ended_1_b (a0 : List api_Unit) (b10 : api_Unit) : Option (Bool × api_Unit) :=
  (slices_IndexFunc_api_Unit_at_fleet_Ended_1_b a0 b10).bind fun y1 =>
  some ((decide (0 ≤ y1.1)), y1.2)
noncomputable def fleet_Ended (a0 : api_Fleet) (a1 : api_Rotation) : Option (Bool) :=
  Option.bind (
    (fleet_Right a0 a1).bind fun y2 =>
    if y2 = true then
      if (a1.Valid == 2) = true then
        (slices_ContainsFunc_api_Unit_at_fleet_Ended_1_b a1.Units (⟨true, 2, 2⟩ : api_Unit)).bind fun y3 =>
        some (!y3.1)
      else
        some false
    else
      some false) fun v1 =>
  some v1
noncomputable def plan_Check_j0 (a0 : api_Fleet) (v4 : Int × Int × (List api_Unit)) : Option Bool :=
  (fleet_Ended a0 (⟨v4.1, v4.2.1, v4.2.2⟩ : api_Rotation)).bind fun y5 =>
  some y5
noncomputable def plan_Check (a0 : api_Fleet) (a1 : api_Rotation) (a2 : List api_Step) : Option (Bool) :=
  (steps_Fault a0 a1 a2).bind fun y1 =>
  (some ((y1.2 != 0) || (y1.1 != ((a2).length : Int)))).bind fun v2 =>
  if v2 = true then
    some false
  else
  (steps_Run a0 a1 a2).bind fun y3 =>
  if (y3.2 != 0) = true then
    some false
  else
  if (decide (0 < ((y3.1).length : Int))) = true then
    (idx y3.1 (IntKind.i64.wrap (((y3.1).length : Int) - 1))).bind fun x6 =>
    plan_Check_j0 a0 (x6.Known, x6.Valid, x6.Units)
  else
    plan_Check_j0 a0 (a1.Known, a1.Valid, a1.Units)
noncomputable def top_awake39  : Option (Bool) :=
  (plan_Make (⟨1, [(⟨0, false, false⟩ : api_Consumer), (⟨0, false, false⟩ : api_Consumer)]⟩ : api_Fleet)).bind fun y1 =>
  (fleet_Start (⟨1, [(⟨0, false, false⟩ : api_Consumer), (⟨0, false, false⟩ : api_Consumer)]⟩ : api_Fleet)).bind fun y2 =>
  Option.bind (
    if (y1.2 == 0) = true then
      if (y2.2 == 0) = true then
        (plan_Check (⟨1, [(⟨0, false, false⟩ : api_Consumer), (⟨0, false, false⟩ : api_Consumer)]⟩ : api_Fleet) y2.1 y1.1).bind fun y4 =>
        some y4
      else
        some false
    else
      some false) fun v3 =>
  some v3
noncomputable def make_Tape_Next (a0 : make_Tape) (a1 : Int) : Option (Int × make_Tape) :=
  if (decide (((a0.L).length : Int) ≤ a0.at_)) = true then
    some (0, a0)
  else
  (idx a0.L a0.at_).bind fun x1 =>
  (ck (a1 ≠ 0)).bind fun _ =>
  some (((bAnd .i64 x1 65535)).tmod a1, (⟨a0.L, IntKind.i64.wrap (a0.at_ + 1)⟩ : make_Tape))
noncomputable def make_Tape_Between (a0 : make_Tape) (a1 : Int) (a2 : Int) : Option (Int × make_Tape) :=
  (make_Tape_Next a0 (IntKind.i64.wrap ((IntKind.i64.wrap (a2 - a1)) + 1))).bind fun y1 =>
  some (IntKind.i64.wrap (a1 + y1.1), y1.2)
noncomputable def make_Fleet_l0  (s4 : Int × (List Int) × Int × (List api_Consumer)) : Option (Lp (Int × (List Int) × Int × (List api_Consumer)) ((List Int) × Int × (List api_Consumer))) :=
  if (decide (0 < s4.1)) = true then
    (make_Tape_Next (⟨s4.2.1, s4.2.2.1⟩ : make_Tape) 2).bind fun y5 =>
    (make_Tape_Next y5.2 2).bind fun y6 =>
    (make_Tape_Next y6.2 2).bind fun y7 =>
    (ck ((s4.2.2.2).length + ([(⟨y5.1, (y6.1 == 1), (y7.1 == 1)⟩ : api_Consumer)]).length ≤ 268435456)).bind fun _ =>
    some (.go (IntKind.i64.wrap (s4.1 - 1), y7.2.L, y7.2.at_, (s4.2.2.2 ++ [(⟨y5.1, (y6.1 == 1), (y7.1 == 1)⟩ : api_Consumer)])))
  else
    some (.out (s4.2.1, s4.2.2.1, s4.2.2.2))
noncomputable def make_Fleet (a0 : make_Tape) (a1 : Int) : Option (api_Fleet × make_Tape) :=
  (make_Tape_Between a0 1 2).bind fun y1 =>
  (make_Tape_Between y1.2 1 a1).bind fun y2 =>
  (iter (make_Fleet_l0) (y2.1, y2.2.L, y2.2.at_, [])).bind fun v3 =>
  some ((⟨y1.1, v3.2.2⟩ : api_Fleet), (⟨v3.1, v3.2.1⟩ : make_Tape))
noncomputable def search_check (a0 : api_Fleet) (a1 : api_Rotation) : Option (Int) :=
  (fleet_Right a0 a1).bind fun y1 =>
  if (!y1) = true then
    some 36
  else
  if (decide (3 < ((a0.Consumers).length : Int))) = true then
    some 3
  else
    some 0
noncomputable def search_found_key_l0 (a0 : search_found) (s2 : Int × (List Int)) : Option (Lp (Int × (List Int)) (List Int)) :=
  if (decide (s2.1 < ((a0.Rotation.Units).length : Int))) = true then
    (idx a0.Rotation.Units s2.1).bind fun x3 =>
    (ck (0 ≤ IntKind.i64.wrap (2 + (IntKind.i64.wrap (3 * s2.1))) ∧ IntKind.i64.wrap (2 + (IntKind.i64.wrap (3 * s2.1))) < 11)).bind fun _ =>
    (ck ((Int.toNat (IntKind.i64.wrap (2 + (IntKind.i64.wrap (3 * s2.1))))) < (s2.2).length)).bind fun _ =>
    (ck (0 ≤ IntKind.i64.wrap (3 + (IntKind.i64.wrap (3 * s2.1))) ∧ IntKind.i64.wrap (3 + (IntKind.i64.wrap (3 * s2.1))) < 11)).bind fun _ =>
    (ck ((Int.toNat (IntKind.i64.wrap (3 + (IntKind.i64.wrap (3 * s2.1))))) < ((s2.2.set (Int.toNat (IntKind.i64.wrap (2 + (IntKind.i64.wrap (3 * s2.1))))) x3.Stored)).length)).bind fun _ =>
    if x3.Up = true then
      (ck (0 ≤ IntKind.i64.wrap (4 + (IntKind.i64.wrap (3 * s2.1))) ∧ IntKind.i64.wrap (4 + (IntKind.i64.wrap (3 * s2.1))) < 11)).bind fun _ =>
      (ck ((Int.toNat (IntKind.i64.wrap (4 + (IntKind.i64.wrap (3 * s2.1))))) < (((s2.2.set (Int.toNat (IntKind.i64.wrap (2 + (IntKind.i64.wrap (3 * s2.1))))) x3.Stored).set (Int.toNat (IntKind.i64.wrap (3 + (IntKind.i64.wrap (3 * s2.1))))) x3.Used)).length)).bind fun _ =>
      some (.go (IntKind.i64.wrap (s2.1 + 1), (((s2.2.set (Int.toNat (IntKind.i64.wrap (2 + (IntKind.i64.wrap (3 * s2.1))))) x3.Stored).set (Int.toNat (IntKind.i64.wrap (3 + (IntKind.i64.wrap (3 * s2.1))))) x3.Used).set (Int.toNat (IntKind.i64.wrap (4 + (IntKind.i64.wrap (3 * s2.1))))) 1)))
    else
      some (.go (IntKind.i64.wrap (s2.1 + 1), ((s2.2.set (Int.toNat (IntKind.i64.wrap (2 + (IntKind.i64.wrap (3 * s2.1))))) x3.Stored).set (Int.toNat (IntKind.i64.wrap (3 + (IntKind.i64.wrap (3 * s2.1))))) x3.Used)))
  else
    some (.out s2.2)
noncomputable def search_found_key (a0 : search_found) : Option ((List Int)) :=
  (iter (search_found_key_l0 a0) (0, ([a0.Rotation.Known, a0.Rotation.Valid, 0, 0, 0, 0, 0, 0, 0, 0, 0] : List Int))).bind fun v1 =>
  (ck ((v1).length = 11)).bind fun _ =>
  (ck ((v1).length = 11)).bind fun _ =>
  (ck ((v1).length = 11)).bind fun _ =>
  some v1
noncomputable def steps_Safe (a0 : api_Fleet) (a1 : api_Rotation) (a2 : api_Step) : Option (Bool) :=
  (steps_Apply a0 a1 a2).bind fun y1 =>
  Option.bind (
    if (y1.2 == 0) = true then
      (steps_holds a0 a1 y1.1).bind fun y3 =>
      some y3
    else
      some false) fun v2 =>
  some v2
noncomputable def steps_Choices_l1 (a1 : api_Rotation) (a0 : api_Fleet) (s2 : Int × (List api_Step)) (s4 : Int × (List api_Step)) : Option (Lp (Int × (List api_Step)) (List api_Step)) :=
  if (decide (s4.1 < ((a1.Units).length : Int))) = true then
    (steps_Safe a0 a1 (⟨s2.1, s4.1⟩ : api_Step)).bind fun y5 =>
    if y5 = true then
      (ck ((s4.2).length + ([(⟨s2.1, s4.1⟩ : api_Step)]).length ≤ 268435456)).bind fun _ =>
      some (.go (IntKind.i64.wrap (s4.1 + 1), (s4.2 ++ [(⟨s2.1, s4.1⟩ : api_Step)])))
    else
      some (.go (IntKind.i64.wrap (s4.1 + 1), s4.2))
  else
    some (.out s4.2)
noncomputable def steps_Choices_l0 (a1 : api_Rotation) (a0 : api_Fleet) (s2 : Int × (List api_Step)) : Option (Lp (Int × (List api_Step)) (List api_Step)) :=
  if (decide (s2.1 ≤ 8)) = true then
    (iter (steps_Choices_l1 a1 a0 s2) (0, s2.2)).bind fun v3 =>
    some (.go (IntKind.i64.wrap (s2.1 + 1), v3))
  else
    some (.out s2.2)
noncomputable def steps_Choices (a0 : api_Fleet) (a1 : api_Rotation) : Option ((List api_Step)) :=
  (iter (steps_Choices_l0 a1 a0) (1, [])).bind fun v1 =>
  some v1
noncomputable def search_all_l1 (y7 : (List api_Step)) (a0 : api_Fleet) (x6 : search_found) (s5 : Int × (List search_found) × (List ((List Int) × Bool))) (s9 : Int × (List search_found) × (List ((List Int) × Bool))) : Option (Lp (Int × (List search_found) × (List ((List Int) × Bool))) ((List search_found) × (List ((List Int) × Bool)))) :=
  if (decide (s9.1 < ((y7).length : Int))) = true then
    (idx y7 s9.1).bind fun x10 =>
    (steps_Apply a0 x6.Rotation x10).bind fun y11 =>
    (search_found_key (⟨y11.1, IntKind.i64.wrap (x6.far + 1), x10, s5.1⟩ : search_found)).bind fun y12 =>
    (ck ((y12).length = 11)).bind fun _ =>
    if (!((mget (arE 11) s9.2.2 y12).getD false)) = true then
      (search_found_key (⟨y11.1, IntKind.i64.wrap (x6.far + 1), x10, s5.1⟩ : search_found)).bind fun y13 =>
      (ck ((y13).length = 11)).bind fun _ =>
      (ck ((s9.2.1).length + ([(⟨y11.1, IntKind.i64.wrap (x6.far + 1), x10, s5.1⟩ : search_found)]).length ≤ 268435456)).bind fun _ =>
      some (.go (IntKind.i64.wrap (s9.1 + 1), (s9.2.1 ++ [(⟨y11.1, IntKind.i64.wrap (x6.far + 1), x10, s5.1⟩ : search_found)]), (mset (arE 11) s9.2.2 y13 true)))
    else
      some (.go (IntKind.i64.wrap (s9.1 + 1), s9.2.1, s9.2.2))
  else
    some (.out (s9.2.1, s9.2.2))
noncomputable def search_all_l0 (a0 : api_Fleet) (s5 : Int × (List search_found) × (List ((List Int) × Bool))) : Option (Lp (Int × (List search_found) × (List ((List Int) × Bool))) (List search_found)) :=
  if (decide (s5.1 < ((s5.2.1).length : Int))) = true then
    (ck (0 ≤ s5.1 ∧ (Int.toNat s5.1) < (s5.2.1).length)).bind fun _ =>
    (idx s5.2.1 s5.1).bind fun x6 =>
    (steps_Choices a0 x6.Rotation).bind fun y7 =>
    (iter (search_all_l1 y7 a0 x6 s5) (0, s5.2.1, s5.2.2)).bind fun v8 =>
    some (.go (IntKind.i64.wrap (s5.1 + 1), v8.1, v8.2))
  else
    some (.out s5.2.1)
noncomputable def search_all (a0 : api_Fleet) (a1 : api_Rotation) : Option ((List search_found)) :=
  (ck (0 ≤ 0 ∧ 0 < ([(⟨a1, 0, (⟨0, 0⟩ : api_Step), (-1)⟩ : search_found)]).length)).bind fun _ =>
  (idx [(⟨a1, 0, (⟨0, 0⟩ : api_Step), (-1)⟩ : search_found)] 0).bind fun x1 =>
  (search_found_key x1).bind fun y2 =>
  (ck ((y2).length = 11)).bind fun _ =>
  (some ([(⟨a1, 0, (⟨0, 0⟩ : api_Step), (-1)⟩ : search_found)] : List search_found)).bind fun l3 =>
  (iter (search_all_l0 a0) (0, l3, (mset (arE 11) [] y2 true))).bind fun v4 =>
  some v4
noncomputable def search_end_1_cb (a0 : search_found) (a1 : api_Fleet) : Option (Bool × api_Fleet) :=
  (fleet_Ended a1 a0.Rotation).bind fun y1 =>
  some (y1, a1)
noncomputable def slices_IndexFunc_search_found_at_search_end_1_b_l0 (a0 : List search_found) (s2 : Int × Int × (List api_Consumer)) : Option (Lp (Int × Int × (List api_Consumer)) ((Int × (List api_Consumer)) ⊕ (Int × api_Fleet))) :=
  if (decide (s2.1 < ((a0).length : Int))) = true then
    (idx a0 s2.1).bind fun x3 =>
    (search_end_1_cb x3 (⟨s2.2.1, s2.2.2⟩ : api_Fleet)).bind fun y4 =>
    if y4.1 = true then
      some (.out (.inr (s2.1, y4.2)))
    else
      some (.go (IntKind.i64.wrap (s2.1 + 1), y4.2.Slots, y4.2.Consumers))
  else
    some (.out (.inl (s2.2.1, s2.2.2)))
noncomputable def slices_IndexFunc_search_found_at_search_end_1_b (a0 : List search_found) (b10 : api_Fleet) : Option (Int × api_Fleet) :=
  (iter (slices_IndexFunc_search_found_at_search_end_1_b_l0 a0) (0, b10.Slots, b10.Consumers)).bind fun q6 =>
  match q6 with
  | .inl v1 =>
    some ((-1), (⟨v1.1, v1.2⟩ : api_Fleet))
  | .inr r5 =>
    some r5
noncomputable def search_end (a0 : api_Fleet) (a1 : api_Rotation) : Option ((List search_found) × Int × Int) :=
  (search_check a0 a1).bind fun y1 =>
  if (y1 != 0) = true then
    some ([], (-1), y1)
  else
  (search_all a0 a1).bind fun y2 =>
  (slices_IndexFunc_search_found_at_search_end_1_b y2 a0).bind fun y3 =>
  some (y2, y3.1, 0)
noncomputable def search_Distance (a0 : api_Fleet) (a1 : api_Rotation) : Option (Int × Bool × Int) :=
  (search_end a0 a1).bind fun y1 =>
  if (decide (y1.2.1 < 0)) = true then
    some (0, false, y1.2.2)
  else
  (idx y1.1 y1.2.1).bind fun x2 =>
  some (x2.far, true, 0)
noncomputable def make_Pick (a0 : make_Tape) (a1 : List Int) : Option (Int × make_Tape) :=
  (make_Tape_Next a0 ((a1).length : Int)).bind fun y1 =>
  (idx a1 y1.1).bind fun x2 =>
  some (x2, y1.2)
noncomputable def make_Outcomes_l0  (s3 : Int × (List Int) × Int × (List Int)) : Option (Lp (Int × (List Int) × Int × (List Int)) ((List Int) × Int × (List Int))) :=
  if (decide (0 < s3.1)) = true then
    (make_Pick (⟨s3.2.1, s3.2.2.1⟩ : make_Tape) [0, 0, 1, 2, 3, 4, 0]).bind fun y4 =>
    (ck ((s3.2.2.2).length + ([y4.1]).length ≤ 268435456)).bind fun _ =>
    some (.go (IntKind.i64.wrap (s3.1 - 1), y4.2.L, y4.2.at_, (s3.2.2.2 ++ [y4.1])))
  else
    some (.out (s3.2.1, s3.2.2.1, s3.2.2.2))
noncomputable def make_Outcomes (a0 : make_Tape) (a1 : Int) : Option ((List Int) × make_Tape) :=
  (make_Tape_Next a0 (IntKind.i64.wrap (a1 + 1))).bind fun y1 =>
  (iter (make_Outcomes_l0) (y1.1, y1.2.L, y1.2.at_, [])).bind fun v2 =>
  some (v2.2.2, (⟨v2.1, v2.2.1⟩ : make_Tape))
noncomputable def runner_outcome (a0 : Int) : Option (Bool) :=
  (some ((decide (0 ≤ a0)) && (decide (a0 ≤ 4)))).bind fun v1 =>
  some v1
noncomputable def runner_check_1 (a0 : Int) : Option (Bool) :=
  (runner_outcome a0).bind fun y1 =>
  some (!y1)
noncomputable def slices_IndexFunc_int_at_runner_check_1_l0 (a0 : List Int) (s2 : Int) : Option (Lp Int (Unit ⊕ Int)) :=
  if (decide (s2 < ((a0).length : Int))) = true then
    (idx a0 s2).bind fun x3 =>
    (runner_check_1 x3).bind fun y4 =>
    if y4 = true then
      some (.out (.inr s2))
    else
      some (.go (IntKind.i64.wrap (s2 + 1)))
  else
    some (.out (.inl ()))
noncomputable def slices_IndexFunc_int_at_runner_check_1 (a0 : List Int) : Option (Int) :=
  (iter (slices_IndexFunc_int_at_runner_check_1_l0 a0) 0).bind fun q6 =>
  match q6 with
  | .inl v1 =>
    some (-1)
  | .inr r5 =>
    some r5
noncomputable def slices_ContainsFunc_int_at_runner_check_1 (a0 : List Int) : Option (Bool) :=
  (slices_IndexFunc_int_at_runner_check_1 a0).bind fun y1 =>
  some (decide (0 ≤ y1))
noncomputable def runner_check (a0 : api_Fleet) (a1 : api_Rotation) (a2 : List api_Step) (a3 : List Int) : Option (Int) :=
  (fleet_Right a0 a1).bind fun y1 =>
  if (!y1) = true then
    some 36
  else
  if (decide (120 < ((a2).length : Int))) = true then
    some 3
  else
  (slices_ContainsFunc_int_at_runner_check_1 a3).bind fun y2 =>
  if y2 = true then
    some 2
  else
    some 0
noncomputable def runner_runner_next (a0 : runner_runner) : Option (Int × runner_runner) :=
  if (decide (((a0.tried).length : Int) < ((a0.outcomes).length : Int))) = true then
    (idx a0.outcomes ((a0.tried).length : Int)).bind fun x1 =>
    some (x1, a0)
  else
    some (0, a0)
noncomputable def runner_there (a0 : Int) : Option (Bool) :=
  (some ((a0 != 1) && (a0 != 4))).bind fun v1 =>
  some v1
noncomputable def runner_runner_look_o0_6_7 (a0 : runner_runner) (a1 : api_Rotation) : Option (runner_runner) :=
  (fleet_Copy a1).bind fun y1 =>
  (ck ((a0.states).length + ([y1]).length ≤ 268435456)).bind fun _ =>
  some (⟨a0.fleet, a0.state, a0.outcomes, a0.tried, (a0.states ++ [y1])⟩ : runner_runner)
noncomputable def runner_runner_next_o0_6_7 (a0 : runner_runner) : Option (Int × runner_runner) :=
  if (decide (((a0.tried).length : Int) < ((a0.outcomes).length : Int))) = true then
    (idx a0.outcomes ((a0.tried).length : Int)).bind fun x1 =>
    some (x1, a0)
  else
    some (0, a0)
noncomputable def runner_runner_step_o0_6_7_j1 (y4 : Int × runner_runner) (y1 : api_Rotation × Int) (s3 : Int × Int × (List api_Consumer) × Int × Int × (List api_Unit) × (List Int) × (List api_Attempt) × (List api_Rotation)) (v6 : Int × (List api_Consumer) × Int × Int × (List api_Unit) × (List Int) × (List api_Rotation) × (List api_Attempt)) : Option (Lp (Int × Int × (List api_Consumer) × Int × Int × (List api_Unit) × (List Int) × (List api_Attempt) × (List api_Rotation)) ((Int × (List api_Consumer) × Int × Int × (List api_Unit) × (List Int) × (List api_Attempt) × (List api_Rotation)) ⊕ (Int × runner_runner))) :=
  (runner_there y4.1).bind fun y7 =>
  if y7 = true then
    (runner_runner_look_o0_6_7 (⟨(⟨v6.1, v6.2.1⟩ : api_Fleet), y1.1, v6.2.2.2.2.2.1, v6.2.2.2.2.2.2.2, v6.2.2.2.2.2.2.1⟩ : runner_runner) y1.1).bind fun y8 =>
    some (.out (.inr (0, y8)))
  else
  (runner_runner_look_o0_6_7 (⟨(⟨v6.1, v6.2.1⟩ : api_Fleet), (⟨v6.2.2.1, v6.2.2.2.1, v6.2.2.2.2.1⟩ : api_Rotation), v6.2.2.2.2.2.1, v6.2.2.2.2.2.2.2, v6.2.2.2.2.2.2.1⟩ : runner_runner) (⟨v6.2.2.1, v6.2.2.2.1, v6.2.2.2.2.1⟩ : api_Rotation)).bind fun y9 =>
  some (.go (IntKind.i64.wrap (s3.1 + 1), y9.fleet.Slots, y9.fleet.Consumers, y9.state.Known, y9.state.Valid, y9.state.Units, y9.outcomes, y9.tried, y9.states))
noncomputable def runner_runner_step_o0_6_7_l0 (a1 : api_Step) (y1 : api_Rotation × Int) (s3 : Int × Int × (List api_Consumer) × Int × Int × (List api_Unit) × (List Int) × (List api_Attempt) × (List api_Rotation)) : Option (Lp (Int × Int × (List api_Consumer) × Int × Int × (List api_Unit) × (List Int) × (List api_Attempt) × (List api_Rotation)) ((Int × (List api_Consumer) × Int × Int × (List api_Unit) × (List Int) × (List api_Attempt) × (List api_Rotation)) ⊕ (Int × runner_runner))) :=
  if (decide (s3.1 < 6)) = true then
    (runner_runner_next_o0_6_7 (⟨(⟨s3.2.1, s3.2.2.1⟩ : api_Fleet), (⟨s3.2.2.2.1, s3.2.2.2.2.1, s3.2.2.2.2.2.1⟩ : api_Rotation), s3.2.2.2.2.2.2.1, s3.2.2.2.2.2.2.2.1, s3.2.2.2.2.2.2.2.2⟩ : runner_runner)).bind fun y4 =>
    (runner_there y4.1).bind fun y5 =>
    (ck ((y4.2.tried).length + ([(⟨a1, y4.1, y5⟩ : api_Attempt)]).length ≤ 268435456)).bind fun _ =>
    if (y4.1 == 4) = true then
      (runner_runner_look_o0_6_7 (⟨y4.2.fleet, y4.2.state, y4.2.outcomes, (y4.2.tried ++ [(⟨a1, y4.1, y5⟩ : api_Attempt)]), y4.2.states⟩ : runner_runner) y1.1).bind fun y10 =>
      runner_runner_step_o0_6_7_j1 y4 y1 s3 (y10.fleet.Slots, y10.fleet.Consumers, y10.state.Known, y10.state.Valid, y10.state.Units, y10.outcomes, y10.states, y10.tried)
    else
      runner_runner_step_o0_6_7_j1 y4 y1 s3 (y4.2.fleet.Slots, y4.2.fleet.Consumers, y4.2.state.Known, y4.2.state.Valid, y4.2.state.Units, y4.2.outcomes, y4.2.states, (y4.2.tried ++ [(⟨a1, y4.1, y5⟩ : api_Attempt)]))
  else
    some (.out (.inl (s3.2.1, s3.2.2.1, s3.2.2.2.1, s3.2.2.2.2.1, s3.2.2.2.2.2.1, s3.2.2.2.2.2.2.1, s3.2.2.2.2.2.2.2.1, s3.2.2.2.2.2.2.2.2)))
noncomputable def runner_runner_step_o0_6_7 (a0 : runner_runner) (a1 : api_Step) : Option (Int × runner_runner) :=
  (steps_Apply a0.fleet a0.state a1).bind fun y1 =>
  if (y1.2 != 0) = true then
    some (y1.2, a0)
  else
  (iter (runner_runner_step_o0_6_7_l0 a1 y1) (0, a0.fleet.Slots, a0.fleet.Consumers, a0.state.Known, a0.state.Valid, a0.state.Units, a0.outcomes, a0.tried, a0.states)).bind fun q12 =>
  match q12 with
  | .inl v2 =>
    some (40, (⟨(⟨v2.1, v2.2.1⟩ : api_Fleet), (⟨v2.2.2.1, v2.2.2.2.1, v2.2.2.2.2.1⟩ : api_Rotation), v2.2.2.2.2.2.1, v2.2.2.2.2.2.2.1, v2.2.2.2.2.2.2.2⟩ : runner_runner))
  | .inr r11 =>
    some r11
noncomputable def runner_run_l0 (a2 : List api_Step) (s5 : Int × Int × (List api_Consumer) × Int × Int × (List api_Unit) × (List Int) × (List api_Attempt) × (List api_Rotation)) : Option (Lp (Int × Int × (List api_Consumer) × Int × Int × (List api_Unit) × (List Int) × (List api_Attempt) × (List api_Rotation)) ((Int × (List api_Consumer) × Int × Int × (List api_Unit) × (List Int) × (List api_Attempt) × (List api_Rotation)) ⊕ ((Option runner_runner) × Int))) :=
  if (decide (s5.1 < ((a2).length : Int))) = true then
    (idx a2 s5.1).bind fun x6 =>
    (runner_runner_step_o0_6_7 (⟨(⟨s5.2.1, s5.2.2.1⟩ : api_Fleet), (⟨s5.2.2.2.1, s5.2.2.2.2.1, s5.2.2.2.2.2.1⟩ : api_Rotation), s5.2.2.2.2.2.2.1, s5.2.2.2.2.2.2.2.1, s5.2.2.2.2.2.2.2.2⟩ : runner_runner) x6).bind fun y7 =>
    if (y7.1 != 0) = true then
      some (.out (.inr ((some y7.2), y7.1)))
    else
      some (.go (IntKind.i64.wrap (s5.1 + 1), y7.2.fleet.Slots, y7.2.fleet.Consumers, y7.2.state.Known, y7.2.state.Valid, y7.2.state.Units, y7.2.outcomes, y7.2.tried, y7.2.states))
  else
    some (.out (.inl (s5.2.1, s5.2.2.1, s5.2.2.2.1, s5.2.2.2.2.1, s5.2.2.2.2.2.1, s5.2.2.2.2.2.2.1, s5.2.2.2.2.2.2.2.1, s5.2.2.2.2.2.2.2.2)))
noncomputable def runner_run (a0 : api_Fleet) (a1 : api_Rotation) (a2 : List api_Step) (a3 : List Int) : Option ((Option runner_runner) × Int) :=
  (runner_check a0 a1 a2 a3).bind fun y1 =>
  if (y1 != 0) = true then
    some (none, y1)
  else
  (fleet_Copy a1).bind fun y2 =>
  (runner_runner_look_o0_6_7 (⟨a0, y2, a3, [], []⟩ : runner_runner) a1).bind fun y3 =>
  (iter (runner_run_l0 a2) (0, y3.fleet.Slots, y3.fleet.Consumers, y3.state.Known, y3.state.Valid, y3.state.Units, y3.outcomes, y3.tried, y3.states)).bind fun q9 =>
  match q9 with
  | .inl v4 =>
    some ((some (⟨(⟨v4.1, v4.2.1⟩ : api_Fleet), (⟨v4.2.2.1, v4.2.2.2.1, v4.2.2.2.2.1⟩ : api_Rotation), v4.2.2.2.2.2.1, v4.2.2.2.2.2.2.1, v4.2.2.2.2.2.2.2⟩ : runner_runner)), 0)
  | .inr r8 =>
    some r8
noncomputable def runner_Run (a0 : api_Fleet) (a1 : api_Rotation) (a2 : List api_Step) (a3 : List Int) : Option (api_Rotation × (List api_Attempt) × Int) :=
  (runner_run a0 a1 a2 a3).bind fun y1 =>
  match y1.1 with
  | none =>
    some ((⟨0, 0, []⟩ : api_Rotation), [], y1.2)
  | some x2 =>
    some (x2.state, x2.tried, y1.2)
noncomputable def runner_States (a0 : api_Fleet) (a1 : api_Rotation) (a2 : List api_Step) (a3 : List Int) : Option ((List api_Rotation) × Int) :=
  (runner_run a0 a1 a2 a3).bind fun y1 =>
  match y1.1 with
  | none =>
    some ([], y1.2)
  | some x2 =>
    some (x2.states, y1.2)
noncomputable def fallback_Forward (a0 : api_Fleet) (a1 : api_Rotation) (a2 : api_Rotation) : Option (Bool) :=
  Option.bind (
    (fleet_Right a0 a1).bind fun y5 =>
    if (!y5) = true then
      some true
    else
    (fleet_Right a0 a2).bind fun y6 =>
    if (!y6) = true then
      some true
    else
      some ((bAndNot .i64 a1.Known a2.Known) != 0)) fun v1 =>
  if v1 = true then
    some false
  else
  (some (((bAnd .i64 a1.Valid 2) == 0) || ((bAnd .i64 a2.Valid 2) != 0))).bind fun v2 =>
  (some (((bAnd .i64 a1.Valid 1) != 0) || ((bAnd .i64 a2.Valid 1) == 0))).bind fun v3 =>
  (some (v2 && v3)).bind fun v4 =>
  some v4
noncomputable def slices_Clone_api_Step (a0 : List api_Step) : Option (List api_Step) :=
  (ck ((a0).length ≤ 268435456)).bind fun _ =>
  some a0
noncomputable def runner_Left_l1 (a1 : List api_Attempt) (a0 : List api_Step) (s4 : Int × Int) : Option (Lp (Int × Int) (Int ⊕ ((List api_Step) × Int))) :=
  if (decide (s4.2 < ((a1).length : Int))) = true then
    (idx a1 s4.2).bind fun x5 =>
    Option.bind (
      if (decide (((a0).length : Int) ≤ s4.1)) = true then
        some true
      else
      (idx a0 s4.1).bind fun x7 =>
      some (!((x5.Step.Kind == x7.Kind) && (x5.Step.Unit == x7.Unit)))) fun v6 =>
    if v6 = true then
      some (.out (.inr ([], 41)))
    else
    if x5.There = true then
      some (.go (IntKind.i64.wrap (s4.1 + 1), IntKind.i64.wrap (s4.2 + 1)))
    else
      some (.go (s4.1, IntKind.i64.wrap (s4.2 + 1)))
  else
    some (.out (.inl s4.1))
noncomputable def runner_Left_l0 (a1 : List api_Attempt) (s10 : Int) : Option (Lp Int (Unit ⊕ ((List api_Step) × Int))) :=
  if (decide (s10 < ((a1).length : Int))) = true then
    (idx a1 s10).bind fun x11 =>
    Option.bind (
      (runner_outcome x11.Outcome).bind fun y13 =>
      if (!y13) = true then
        some true
      else
      (runner_there x11.Outcome).bind fun y14 =>
      some (x11.There != y14)) fun v12 =>
    if v12 = true then
      some (.out (.inr ([], 2)))
    else
      some (.go (IntKind.i64.wrap (s10 + 1)))
  else
    some (.out (.inl ()))
noncomputable def runner_Left (a0 : List api_Step) (a1 : List api_Attempt) : Option ((List api_Step) × Int) :=
  (iter (runner_Left_l0 a1) 0).bind fun q16 =>
  match q16 with
  | .inl v1 =>
    (iter (runner_Left_l1 a1 a0) (0, 0)).bind fun q9 =>
    match q9 with
    | .inl v2 =>
      (ck (0 ≤ v2 ∧ v2 ≤ ((a0).length : Int) ∧ ((a0).length : Int) ≤ ((a0).length : Int))).bind fun _ =>
      (slices_Clone_api_Step ((a0).drop (Int.toNat v2))).bind fun y3 =>
      some (y3, 0)
    | .inr r8 =>
      some r8
  | .inr r15 =>
    some r15
noncomputable def fallback_Hold (a0 : api_Fleet) (a1 : api_Rotation) : Option (Bool) :=
  Option.bind (
    (fleet_Right a0 a1).bind fun y2 =>
    if y2 = true then
      (fleet_Served a0 a1).bind fun y3 =>
      (fleet_Pools a0).bind fun y4 =>
      some (((y3).length : Int) == ((y4).length : Int))
    else
      some false) fun v1 =>
  some v1
noncomputable def fallback_Make (a0 : api_Fleet) (a1 : api_Rotation) : Option ((List api_Step) × Int) :=
  (fleet_Right a0 a1).bind fun y1 =>
  if (!y1) = true then
    some ([], 36)
  else
  (plan_Why a0).bind fun y2 =>
  Option.bind (
    if y2.2 = true then
      some true
    else
    (fallback_Hold a0 a1).bind fun y5 =>
    some (!y5)) fun v3 =>
  if v3 = true then
    some ([], 38)
  else
  (plan_From a0 a1).bind fun y4 =>
  some (y4, 0)
noncomputable def top_TopRotation_l0 (y16 : (List api_Rotation) × Int) (y2 : api_Fleet × make_Tape) (y3 : api_Rotation × Int) (s30 : Int) : Option (Lp Int (Unit ⊕ Bool)) :=
  if (decide (s30 < ((y16.1).length : Int))) = true then
    (idx y16.1 s30).bind fun x31 =>
    Option.bind (
      (fleet_Served y2.1 x31).bind fun y33 =>
      (fleet_Pools y2.1).bind fun y34 =>
      if (((y33).length : Int) != ((y34).length : Int)) = true then
        some true
      else
      (fallback_Forward y2.1 y3.1 x31).bind fun y35 =>
      some (!y35)) fun v32 =>
    if v32 = true then
      some (.out (.inr false))
    else
      some (.go (IntKind.i64.wrap (s30 + 1)))
  else
    some (.out (.inl ()))
noncomputable def top_TopRotation (a0 : List Int) : Option (Bool) :=
  if (decide (400 < ((a0).length : Int))) = true then
    (top_awake39).bind fun y1 =>
    some y1
  else
  (make_Fleet (⟨a0, 0⟩ : make_Tape) 3).bind fun y2 =>
  (fleet_Start y2.1).bind fun y3 =>
  (plan_Make y2.1).bind fun y4 =>
  if (y3.2 != 0) = true then
    some false
  else
  (plan_Why y2.1).bind fun y5 =>
  if y5.2 = true then
    Option.bind (
      if (y4.2 != 38) = true then
        some true
      else
      (plan_Fit y2.1 y5.1.Pool).bind fun y13 =>
      if y13 = true then
        some true
      else
        some (decide (2 < ((y2.1.Consumers).length : Int)))) fun v6 =>
    if v6 = true then
      Option.bind (
        if (y4.2 == 38) = true then
          (plan_Fit y2.1 y5.1.Pool).bind fun y8 =>
          if (!y8) = true then
            (top_awake39).bind fun y9 =>
            some y9
          else
            some false
        else
          some false) fun v7 =>
      some v7
    else
    (search_Distance y2.1 y3.1).bind fun y10 =>
    Option.bind (
      if (y10.2.2 == 0) = true then
        if (!y10.2.1) = true then
          (top_awake39).bind fun y12 =>
          some y12
        else
          some false
      else
        some false) fun v11 =>
    some v11
  else
  (make_Outcomes y2.2 40).bind fun y14 =>
  (runner_Run y2.1 y3.1 y4.1 y14.1).bind fun y15 =>
  (runner_States y2.1 y3.1 y4.1 y14.1).bind fun y16 =>
  (some ((y4.2 != 0) || (y15.2.2 != y16.2))).bind fun v17 =>
  if v17 = true then
    some false
  else
  (iter (top_TopRotation_l0 y16 y2 y3) 0).bind fun q37 =>
  match q37 with
  | .inl v18 =>
    if (y15.2.2 == 0) = true then
      Option.bind (
        (fleet_Ended y2.1 y15.1).bind fun y20 =>
        if y20 = true then
          (plan_Check y2.1 y3.1 y4.1).bind fun y21 =>
          if y21 = true then
            (top_awake39).bind fun y22 =>
            some y22
          else
            some false
        else
          some false) fun v19 =>
      some v19
    else
    (runner_Left y4.1 y15.2.1).bind fun y23 =>
    (runner_Run y2.1 y15.1 y23.1 []).bind fun y24 =>
    (fallback_Make y2.1 y15.1).bind fun y25 =>
    Option.bind (
      if (y15.2.2 == 40) = true then
        if (y23.2 == 0) = true then
          if (y24.2.2 == 0) = true then
            (fleet_Ended y2.1 y24.1).bind fun y27 =>
            if y27 = true then
              if (y25.2 == 0) = true then
                (plan_Check y2.1 y15.1 y25.1).bind fun y28 =>
                if y28 = true then
                  (top_awake39).bind fun y29 =>
                  some y29
                else
                  some false
              else
                some false
            else
              some false
          else
            some false
        else
          some false
      else
        some false) fun v26 =>
    some v26
  | .inr r36 =>
    some r36
end Go.Vl
