/- Plain functions that mirror functions of the given program. Conditions: none. -/
import Derived.Test.YtclmnpkhopioiaaVmV
import Derived.Test.YtclmnpkhopioiaaRh
set_option linter.unusedSimpArgs false
set_option linter.unusedVariables false
namespace Go.Vl
open Go
structure api_Consumer where
  Pool : Int
  Dual : Bool
  Live : Bool
deriving Inhabited
@[simp] def api_Consumer_row (x : api_Consumer) : List D := [.int .i64 x.Pool, .bool x.Dual, .bool x.Live]
@[simp] def api_Consumer_av (x : api_Consumer) : List AV := [.d (.int .i64 x.Pool), .d (.bool x.Dual), .d (.bool x.Live)]
structure api_Fleet where
  Slots : Int
  Consumers : List api_Consumer
deriving Inhabited
@[simp] def api_Fleet_row (x : api_Fleet) : List D := [.int .i64 x.Slots, .slice (rowsF api_Consumer_row x.Consumers)]
@[simp] def api_Fleet_av (x : api_Fleet) : List AV := [.d (.int .i64 x.Slots), .d (.slice (rowsF api_Consumer_row x.Consumers))]
structure api_Unit where
  Up : Bool
  Stored : Int
  Used : Int
deriving Inhabited
@[simp] def api_Unit_row (x : api_Unit) : List D := [.bool x.Up, .int .i64 x.Stored, .int .i64 x.Used]
@[simp] def api_Unit_av (x : api_Unit) : List AV := [.d (.bool x.Up), .d (.int .i64 x.Stored), .d (.int .i64 x.Used)]
structure api_Rotation where
  Known : Int
  Valid : Int
  Units : List api_Unit
deriving Inhabited
@[simp] def api_Rotation_row (x : api_Rotation) : List D := [.int .i64 x.Known, .int .i64 x.Valid, .slice (rowsF api_Unit_row x.Units)]
@[simp] def api_Rotation_av (x : api_Rotation) : List AV := [.d (.int .i64 x.Known), .d (.int .i64 x.Valid), .d (.slice (rowsF api_Unit_row x.Units))]
structure make_Tape where
  L : List Int
  at_ : Int
deriving Inhabited
@[simp] def make_Tape_row (x : make_Tape) : List D := [.slice (rowsF (iRow .i64) x.L), .int .i64 x.at_]
@[simp] def make_Tape_av (x : make_Tape) : List AV := [.d (.slice (rowsF (iRow .i64) x.L)), .d (.int .i64 x.at_)]
structure api_Step where
  Kind : Int
  Unit : Int
deriving Inhabited
@[simp] def api_Step_row (x : api_Step) : List D := [.int .i64 x.Kind, .int .i64 x.Unit]
@[simp] def api_Step_av (x : api_Step) : List AV := [.d (.int .i64 x.Kind), .d (.int .i64 x.Unit)]
structure api_Attempt where
  Step : api_Step
  Outcome : Int
  There : Bool
deriving Inhabited
@[simp] def api_Attempt_row (x : api_Attempt) : List D := [.int .i64 x.Step.Kind, .int .i64 x.Step.Unit, .int .i64 x.Outcome, .bool x.There]
@[simp] def api_Attempt_av (x : api_Attempt) : List AV := [.d (.int .i64 x.Step.Kind), .d (.int .i64 x.Step.Unit), .d (.int .i64 x.Outcome), .d (.bool x.There)]
structure runner_runner where
  fleet : api_Fleet
  state : api_Rotation
  outcomes : List Int
  tried : List api_Attempt
  states : List api_Rotation
deriving Inhabited
@[simp] def runner_runner_row (x : runner_runner) : List D := [.int .i64 x.fleet.Slots, .slice (rowsF api_Consumer_row x.fleet.Consumers), .int .i64 x.state.Known, .int .i64 x.state.Valid, .slice (rowsF api_Unit_row x.state.Units), .slice (rowsF (iRow .i64) x.outcomes), .slice (rowsF api_Attempt_row x.tried), .slice (rowsF api_Rotation_row x.states)]
@[simp] def runner_runner_av (x : runner_runner) : List AV := [.d (.int .i64 x.fleet.Slots), .d (.slice (rowsF api_Consumer_row x.fleet.Consumers)), .d (.int .i64 x.state.Known), .d (.int .i64 x.state.Valid), .d (.slice (rowsF api_Unit_row x.state.Units)), .d (.slice (rowsF (iRow .i64) x.outcomes)), .d (.slice (rowsF api_Attempt_row x.tried)), .d (.slice (rowsF api_Rotation_row x.states))]
noncomputable def fleet_Check_1 (a0 : api_Consumer) : Option (Bool) :=
  (some ((decide (a0.Pool < 0)) || (decide (7 < a0.Pool)))).bind fun v1 =>
  some v1
noncomputable def slices_IndexFunc_api_Consumer_at_fleet_Check_1_l0 (a0 : List api_Consumer) (s2 : Int) : Option (Lp Int (Unit ⊕ Int)) :=
  if (decide (s2 < ((a0).length : Int))) = true then
    (idx a0 s2).bind fun x3 =>
    (fleet_Check_1 x3).bind fun y4 =>
    if y4 = true then
      some (.out (.inr s2))
    else
      some (.go (IntKind.i64.wrap (s2 + 1)))
  else
    some (.out (.inl ()))
noncomputable def slices_IndexFunc_api_Consumer_at_fleet_Check_1 (a0 : List api_Consumer) : Option (Int) :=
  (iter (slices_IndexFunc_api_Consumer_at_fleet_Check_1_l0 a0) 0).bind fun q6 =>
  match q6 with
  | .inl v1 =>
    some (-1)
  | .inr r5 =>
    some r5
noncomputable def slices_ContainsFunc_api_Consumer_at_fleet_Check_1 (a0 : List api_Consumer) : Option (Bool) :=
  (slices_IndexFunc_api_Consumer_at_fleet_Check_1 a0).bind fun y1 =>
  some (decide (0 ≤ y1))
noncomputable def fleet_Check (a0 : api_Fleet) : Option (Int) :=
  Option.bind (
    if (a0.Slots != 1) = true then
      if (a0.Slots != 2) = true then
        some true
      else
      if (decide (((a0.Consumers).length : Int) < 1)) = true then
        some true
      else
      if (decide (8 < ((a0.Consumers).length : Int))) = true then
        some true
      else
      (slices_ContainsFunc_api_Consumer_at_fleet_Check_1 a0.Consumers).bind fun y2 =>
      some y2
    else
    if (decide (((a0.Consumers).length : Int) < 1)) = true then
      some true
    else
    if (decide (8 < ((a0.Consumers).length : Int))) = true then
      some true
    else
    (slices_ContainsFunc_api_Consumer_at_fleet_Check_1 a0.Consumers).bind fun y3 =>
    some y3) fun v1 =>
  if v1 = true then
    some 36
  else
    some 0
noncomputable def math_bits_Mul32 (a0 : Int) (a1 : Int) : Option (Int × Int) :=
  some (IntKind.u32.wrap (((IntKind.u64.wrap ((IntKind.u64.wrap a0) * (IntKind.u64.wrap a1)))).fdiv (2 ^ (min 32 IntKind.u64.bits))), IntKind.u32.wrap (IntKind.u64.wrap ((IntKind.u64.wrap a0) * (IntKind.u64.wrap a1))))
noncomputable def math_bits_Mul64 (a0 : Int) (a1 : Int) : Option (Int × Int) :=
  some (IntKind.u64.wrap ((IntKind.u64.wrap ((IntKind.u64.wrap (((a0).fdiv (2 ^ (min 32 IntKind.u64.bits))) * ((a1).fdiv (2 ^ (min 32 IntKind.u64.bits))))) + (((IntKind.u64.wrap ((IntKind.u64.wrap (((a0).fdiv (2 ^ (min 32 IntKind.u64.bits))) * (bAnd .u64 a1 4294967295))) + (((IntKind.u64.wrap ((bAnd .u64 a0 4294967295) * (bAnd .u64 a1 4294967295)))).fdiv (2 ^ (min 32 IntKind.u64.bits)))))).fdiv (2 ^ (min 32 IntKind.u64.bits))))) + (((IntKind.u64.wrap ((bAnd .u64 (IntKind.u64.wrap ((IntKind.u64.wrap (((a0).fdiv (2 ^ (min 32 IntKind.u64.bits))) * (bAnd .u64 a1 4294967295))) + (((IntKind.u64.wrap ((bAnd .u64 a0 4294967295) * (bAnd .u64 a1 4294967295)))).fdiv (2 ^ (min 32 IntKind.u64.bits))))) 4294967295) + (IntKind.u64.wrap ((bAnd .u64 a0 4294967295) * ((a1).fdiv (2 ^ (min 32 IntKind.u64.bits)))))))).fdiv (2 ^ (min 32 IntKind.u64.bits)))), IntKind.u64.wrap (a0 * a1))
noncomputable def math_bits_Mul (a0 : Int) (a1 : Int) : Option (Int × Int) :=
  (math_bits_Mul64 a0 a1).bind fun y1 =>
  some (y1.1, y1.2)
noncomputable def slices_Repeat_api_Unit_l0  (s5 : Int × (List api_Unit)) : Option (Lp (Int × (List api_Unit)) (List api_Unit)) :=
  if (decide (s5.1 < ((s5.2).length : Int))) = true then
    (ck (0 ≤ s5.1 ∧ s5.1 ≤ (((s5.2).length : Nat) : Int) ∧ (((s5.2).length : Nat) : Int) ≤ (((s5.2).length : Nat) : Int))).bind fun _ =>
    (ck (0 ≤ 0 ∧ 0 ≤ s5.1 ∧ s5.1 ≤ (((s5.2).length : Nat) : Int))).bind fun _ =>
    (ck (0 + (Int.toNat s5.1) ≤ (s5.2).length)).bind fun _ =>
    (ck ((Int.toNat s5.1) + ((s5.2).length - (Int.toNat s5.1)) ≤ (s5.2).length)).bind fun _ =>
    some (.go (IntKind.i64.wrap (s5.1 + (((min ((s5.2).length - (Int.toNat s5.1)) (Int.toNat s5.1)) : Nat) : Int)), ((s5.2).take (Int.toNat s5.1) ++ ((((s5.2).take (Int.toNat s5.1))).take (min ((s5.2).length - (Int.toNat s5.1)) (Int.toNat s5.1)) ++ (s5.2).drop ((Int.toNat s5.1) + (min ((s5.2).length - (Int.toNat s5.1)) (Int.toNat s5.1)))))))
  else
    some (.out s5.2)
noncomputable def slices_Repeat_api_Unit (a0 : List api_Unit) (a1 : Int) : Option ((List api_Unit)) :=
  if (decide (a1 < 0)) = true then
    none
  else
  (math_bits_Mul (IntKind.u64.wrap ((a0).length : Int)) (IntKind.u64.wrap a1)).bind fun y1 =>
  (some ((decide (0 < y1.1)) || (decide (9223372036854775807 < y1.2)))).bind fun v2 =>
  if v2 = true then
    none
  else
  (ck (0 ≤ IntKind.i64.wrap y1.2 ∧ IntKind.i64.wrap y1.2 ≤ 268435456)).bind fun _ =>
  (some (List.replicate (Int.toNat (IntKind.i64.wrap y1.2)) (⟨false, 0, 0⟩ : api_Unit) : List api_Unit)).bind fun l3 =>
  (iter (slices_Repeat_api_Unit_l0) ((((min ((l3).length) (a0).length) : Nat) : Int), ((a0).take (min ((l3).length) (a0).length) ++ (l3).drop (min ((l3).length) (a0).length)))).bind fun v4 =>
  some v4
noncomputable def fleet_Start (a0 : api_Fleet) : Option (api_Rotation × Int) :=
  (fleet_Check a0).bind fun y1 =>
  if (y1 != 0) = true then
    some ((⟨0, 0, []⟩ : api_Rotation), y1)
  else
  (slices_Repeat_api_Unit [(⟨true, 1, 1⟩ : api_Unit)] ((a0.Consumers).length : Int)).bind fun y2 =>
  some ((⟨1, 1, y2⟩ : api_Rotation), 0)
noncomputable def fleet_bits (a0 : Int) (a1 : Int) (a2 : Bool) : Option (Bool) :=
  (some ((decide (0 < a0)) && ((decide (a0 ≤ 3)) && (((bAndNot .i64 a0 a1) == 0) && (a2 || (a0 != 3)))))).bind fun v1 =>
  some v1
noncomputable def fleet_unit (a0 : api_Consumer) (a1 : api_Unit) (a2 : Int) : Option (Bool) :=
  (fleet_bits a1.Stored a2 a0.Dual).bind fun y1 =>
  if (!y1) = true then
    some false
  else
  if (!a1.Up) = true then
    some (a1.Used == 0)
  else
  Option.bind (
    (fleet_bits a1.Used a2 a0.Dual).bind fun y3 =>
    if y3 = true then
      if (!a0.Live) = true then
        some true
      else
        some (a1.Used == a1.Stored)
    else
      some false) fun v2 =>
  some v2
noncomputable def fleet_Right_l0 (a1 : api_Rotation) (a0 : api_Fleet) (s3 : Int) : Option (Lp Int (Unit ⊕ Bool)) :=
  if (decide (s3 < ((a1.Units).length : Int))) = true then
    (idx a1.Units s3).bind fun x4 =>
    (idx a0.Consumers s3).bind fun x5 =>
    (fleet_unit x5 x4 a1.Known).bind fun y6 =>
    if (!y6) = true then
      some (.out (.inr false))
    else
      some (.go (IntKind.i64.wrap (s3 + 1)))
  else
    some (.out (.inl ()))
noncomputable def fleet_Right (a0 : api_Fleet) (a1 : api_Rotation) : Option (Bool) :=
  Option.bind (
    (fleet_Check a0).bind fun y9 =>
    if (y9 != 0) = true then
      some true
    else
    if (a1.Known != 1) = true then
      if (a1.Known != 3) = true then
        some true
      else
      (fleet_bits a1.Valid a1.Known (a0.Slots == 2)).bind fun y10 =>
      if (!y10) = true then
        some true
      else
        some (((a1.Units).length : Int) != ((a0.Consumers).length : Int))
    else
    (fleet_bits a1.Valid a1.Known (a0.Slots == 2)).bind fun y11 =>
    if (!y11) = true then
      some true
    else
      some (((a1.Units).length : Int) != ((a0.Consumers).length : Int))) fun v1 =>
  if v1 = true then
    some false
  else
  (iter (fleet_Right_l0 a1 a0) 0).bind fun q8 =>
  match q8 with
  | .inl v2 =>
    some true
  | .inr r7 =>
    some r7
noncomputable def fleet_Serves (a0 : api_Fleet) (a1 : api_Rotation) (a2 : Int) : Option (Bool) :=
  Option.bind (
    (fleet_Right a0 a1).bind fun y2 =>
    if y2 = true then
      if (decide (0 ≤ a2)) = true then
        if (decide (a2 < ((a1.Units).length : Int))) = true then
          (idx a1.Units a2).bind fun x3 =>
          some ((bAnd .i64 x3.Used a1.Valid) != 0)
        else
          some false
      else
        some false
    else
      some false) fun v1 =>
  some v1
noncomputable def fleet_Ended_1_cb (a0 : api_Unit) (a1 : api_Unit) : Option (Bool × api_Unit) :=
  some ((!((a0.Up == a1.Up) && ((a0.Stored == a1.Stored) && (a0.Used == a1.Used)))), a1)
noncomputable def slices_IndexFunc_api_Unit_at_fleet_Ended_1_b_l0 (a0 : List api_Unit) (s2 : Int × Bool × Int × Int) : Option (Lp (Int × Bool × Int × Int) ((Bool × Int × Int) ⊕ (Int × api_Unit))) :=
  if (decide (s2.1 < ((a0).length : Int))) = true then
    (idx a0 s2.1).bind fun x3 =>
    (fleet_Ended_1_cb x3 (⟨s2.2.1, s2.2.2.1, s2.2.2.2⟩ : api_Unit)).bind fun y4 =>
    if y4.1 = true then
      some (.out (.inr (s2.1, y4.2)))
    else
      some (.go (IntKind.i64.wrap (s2.1 + 1), y4.2.Up, y4.2.Stored, y4.2.Used))
  else
    some (.out (.inl (s2.2.1, s2.2.2.1, s2.2.2.2)))
noncomputable def slices_IndexFunc_api_Unit_at_fleet_Ended_1_b (a0 : List api_Unit) (b10 : api_Unit) : Option (Int × api_Unit) :=
  (iter (slices_IndexFunc_api_Unit_at_fleet_Ended_1_b_l0 a0) (0, b10.Up, b10.Stored, b10.Used)).bind fun q6 =>
  match q6 with
  | .inl v1 =>
    some ((-1), (⟨v1.1, v1.2.1, v1.2.2⟩ : api_Unit))
  | .inr r5 =>
    some r5
noncomputable def slices_ContainsFunc_api_Unit_at_fleet_Ended_1_b (a0 : List api_Unit) (b10 : api_Unit) : Option (Bool × api_Unit) :=
  (slices_IndexFunc_api_Unit_at_fleet_Ended_1_b a0 b10).bind fun y1 =>
  some ((decide (0 ≤ y1.1)), y1.2)
noncomputable def fleet_Ended (a0 : api_Fleet) (a1 : api_Rotation) : Option (Bool) :=
  Option.bind (
    (fleet_Right a0 a1).bind fun y2 =>
    if y2 = true then
      if (a1.Valid == 2) = true then
        (slices_ContainsFunc_api_Unit_at_fleet_Ended_1_b a1.Units (⟨true, 2, 2⟩ : api_Unit)).bind fun y3 =>
        some (!y3.1)
      else
        some false
    else
      some false) fun v1 =>
  some v1
noncomputable def cmp_isNaN_int (a0 : Int) : Option (Bool) :=
  some (a0 != a0)
noncomputable def cmp_Less_int (a0 : Int) (a1 : Int) : Option (Bool) :=
  Option.bind (
    (cmp_isNaN_int a0).bind fun y2 =>
    if y2 = true then
      (cmp_isNaN_int a1).bind fun y3 =>
      if (!y3) = true then
        some true
      else
        some (decide (a0 < a1))
    else
      some (decide (a0 < a1))) fun v1 =>
  some v1
noncomputable def slices_xorshift_Next (a0 : Int) : Option (Int × Int) :=
  some (bXor .u64 (bXor .u64 (bXor .u64 a0 (IntKind.u64.wrap (a0 * 2 ^ (min 13 IntKind.u64.bits)))) (((bXor .u64 a0 (IntKind.u64.wrap (a0 * 2 ^ (min 13 IntKind.u64.bits))))).fdiv (2 ^ (min 7 IntKind.u64.bits)))) (IntKind.u64.wrap ((bXor .u64 (bXor .u64 a0 (IntKind.u64.wrap (a0 * 2 ^ (min 13 IntKind.u64.bits)))) (((bXor .u64 a0 (IntKind.u64.wrap (a0 * 2 ^ (min 13 IntKind.u64.bits))))).fdiv (2 ^ (min 7 IntKind.u64.bits)))) * 2 ^ (min 17 IntKind.u64.bits))), bXor .u64 (bXor .u64 (bXor .u64 a0 (IntKind.u64.wrap (a0 * 2 ^ (min 13 IntKind.u64.bits)))) (((bXor .u64 a0 (IntKind.u64.wrap (a0 * 2 ^ (min 13 IntKind.u64.bits))))).fdiv (2 ^ (min 7 IntKind.u64.bits)))) (IntKind.u64.wrap ((bXor .u64 (bXor .u64 a0 (IntKind.u64.wrap (a0 * 2 ^ (min 13 IntKind.u64.bits)))) (((bXor .u64 a0 (IntKind.u64.wrap (a0 * 2 ^ (min 13 IntKind.u64.bits))))).fdiv (2 ^ (min 7 IntKind.u64.bits)))) * 2 ^ (min 17 IntKind.u64.bits))))
noncomputable def slices_order2Ordered_int (a0 : List Int) (a1 : Int) (a2 : Int) (a3 : Int) : Option (Int × Int × Int) :=
  (idx a0 a2).bind fun x1 =>
  (idx a0 a1).bind fun x2 =>
  (cmp_Less_int x1 x2).bind fun y3 =>
  if y3 = true then
    some (a2, a1, IntKind.i64.wrap (a3 + 1))
  else
    some (a1, a2, a3)
noncomputable def slices_medianOrdered_int (a0 : List Int) (a1 : Int) (a2 : Int) (a3 : Int) (a4 : Int) : Option (Int × Int) :=
  (slices_order2Ordered_int a0 a1 a2 a4).bind fun y1 =>
  (slices_order2Ordered_int a0 y1.2.1 a3 y1.2.2).bind fun y2 =>
  (slices_order2Ordered_int a0 y1.1 y2.1 y2.2.2).bind fun y3 =>
  some (y3.2.1, y3.2.2)
noncomputable def slices_medianAdjacentOrdered_int (a0 : List Int) (a1 : Int) (a2 : Int) : Option (Int × Int) :=
  (slices_medianOrdered_int a0 (IntKind.i64.wrap (a1 - 1)) a1 (IntKind.i64.wrap (a1 + 1)) a2).bind fun y1 =>
  some (y1.1, y1.2)
noncomputable def slices_choosePivotOrdered_int_j0  (v1 : Int × Int) : Option (Int × Int) :=
  if (v1.2 == 0) = true then
    some (v1.1, 1)
  else
  if (v1.2 == 12) = true then
    some (v1.1, 2)
  else
    some (v1.1, 0)
noncomputable def slices_choosePivotOrdered_int_j1 (a0 : List Int) (v2 : Int × Int × Int × Int) : Option (Int × Int) :=
  (slices_medianOrdered_int a0 v2.1 v2.2.1 v2.2.2.1 v2.2.2.2).bind fun y3 =>
  slices_choosePivotOrdered_int_j0 (y3.1, y3.2)
noncomputable def slices_choosePivotOrdered_int (a0 : List Int) (a1 : Int) (a2 : Int) : Option (Int × Int) :=
  if (decide (8 ≤ (IntKind.i64.wrap (a2 - a1)))) = true then
    if (decide (50 ≤ (IntKind.i64.wrap (a2 - a1)))) = true then
      (slices_medianAdjacentOrdered_int a0 (IntKind.i64.wrap (a1 + (IntKind.i64.wrap ((IntKind.i64.wrap (((IntKind.i64.wrap (a2 - a1))).tdiv 4)) * 1)))) 0).bind fun y4 =>
      (slices_medianAdjacentOrdered_int a0 (IntKind.i64.wrap (a1 + (IntKind.i64.wrap ((IntKind.i64.wrap (((IntKind.i64.wrap (a2 - a1))).tdiv 4)) * 2)))) y4.2).bind fun y5 =>
      (slices_medianAdjacentOrdered_int a0 (IntKind.i64.wrap (a1 + (IntKind.i64.wrap ((IntKind.i64.wrap (((IntKind.i64.wrap (a2 - a1))).tdiv 4)) * 3)))) y5.2).bind fun y6 =>
      slices_choosePivotOrdered_int_j1 a0 (y4.1, y5.1, y6.1, y6.2)
    else
      slices_choosePivotOrdered_int_j1 a0 (IntKind.i64.wrap (a1 + (IntKind.i64.wrap ((IntKind.i64.wrap (((IntKind.i64.wrap (a2 - a1))).tdiv 4)) * 1))), IntKind.i64.wrap (a1 + (IntKind.i64.wrap ((IntKind.i64.wrap (((IntKind.i64.wrap (a2 - a1))).tdiv 4)) * 2))), IntKind.i64.wrap (a1 + (IntKind.i64.wrap ((IntKind.i64.wrap (((IntKind.i64.wrap (a2 - a1))).tdiv 4)) * 3))), 0)
  else
    slices_choosePivotOrdered_int_j0 (IntKind.i64.wrap (a1 + (IntKind.i64.wrap ((IntKind.i64.wrap (((IntKind.i64.wrap (a2 - a1))).tdiv 4)) * 2))), 0)
noncomputable def fleet_Served_l0 (a0 : api_Fleet) (a1 : api_Rotation) (s5 : Int × (List Int)) : Option (Lp (Int × (List Int)) (List Int)) :=
  if (decide (s5.1 < ((a0.Consumers).length : Int))) = true then
    (idx a0.Consumers s5.1).bind fun x6 =>
    (idx a1.Units s5.1).bind fun x7 =>
    if ((bAnd .i64 x7.Used a1.Valid) != 0) = true then
      (ck ((s5.2).length + ([x6.Pool]).length ≤ 268435456)).bind fun _ =>
      some (.go (IntKind.i64.wrap (s5.1 + 1), (s5.2 ++ [x6.Pool])))
    else
      some (.go (IntKind.i64.wrap (s5.1 + 1), s5.2))
  else
    some (.out s5.2)
noncomputable def fleet_Served (a0 : api_Fleet) (a1 : api_Rotation) : Option ((List Int)) :=
  (fleet_Right a0 a1).bind fun y1 =>
  if (!y1) = true then
    some []
  else
  (iter (fleet_Served_l0 a0 a1) (0, [])).bind fun v2 =>
  (slices_Sort_int_vec0 v2).bind fun y3 =>
  (slices_Compact_int_eat0_own0 y3).bind fun y4 =>
  some y4
noncomputable def ref23_Ints_l0 (a0 : List Int) (a1 : List Int) (s2 : Int) : Option (Lp Int (Unit ⊕ Bool)) :=
  if (decide (s2 < ((a0).length : Int))) = true then
    (idx a0 s2).bind fun x3 =>
    (idx a1 s2).bind fun x4 =>
    if (x3 != x4) = true then
      some (.out (.inr false))
    else
      some (.go (IntKind.i64.wrap (s2 + 1)))
  else
    some (.out (.inl ()))
noncomputable def ref23_Ints (a0 : List Int) (a1 : List Int) : Option (Bool) :=
  if (((a0).length : Int) != ((a1).length : Int)) = true then
    some false
  else
  (iter (ref23_Ints_l0 a0 a1) 0).bind fun q6 =>
  match q6 with
  | .inl v1 =>
    some true
  | .inr r5 =>
    some r5
noncomputable def law32_awake  : Option (Bool) :=
  (fleet_Start (⟨1, [(⟨3, false, false⟩ : api_Consumer)]⟩ : api_Fleet)).bind fun y1 =>
  Option.bind (
    if (y1.2 == 0) = true then
      (fleet_Right (⟨1, [(⟨3, false, false⟩ : api_Consumer)]⟩ : api_Fleet) y1.1).bind fun y3 =>
      if y3 = true then
        (fleet_Serves (⟨1, [(⟨3, false, false⟩ : api_Consumer)]⟩ : api_Fleet) y1.1 0).bind fun y4 =>
        if y4 = true then
          (fleet_Ended (⟨1, [(⟨3, false, false⟩ : api_Consumer)]⟩ : api_Fleet) y1.1).bind fun y5 =>
          if (!y5) = true then
            (fleet_Served (⟨1, [(⟨3, false, false⟩ : api_Consumer)]⟩ : api_Fleet) y1.1).bind fun y6 =>
            (ref23_Ints y6 [3]).bind fun y7 =>
            some y7
          else
            some false
        else
          some false
      else
        some false
    else
      some false) fun v2 =>
  some v2
noncomputable def make_Tape_Next (a0 : make_Tape) (a1 : Int) : Option (Int × make_Tape) :=
  if (decide (((a0.L).length : Int) ≤ a0.at_)) = true then
    some (0, a0)
  else
  (idx a0.L a0.at_).bind fun x1 =>
  (ck (a1 ≠ 0)).bind fun _ =>
  some (((bAnd .i64 x1 65535)).tmod a1, (⟨a0.L, IntKind.i64.wrap (a0.at_ + 1)⟩ : make_Tape))
noncomputable def make_Tape_Between (a0 : make_Tape) (a1 : Int) (a2 : Int) : Option (Int × make_Tape) :=
  (make_Tape_Next a0 (IntKind.i64.wrap ((IntKind.i64.wrap (a2 - a1)) + 1))).bind fun y1 =>
  some (IntKind.i64.wrap (a1 + y1.1), y1.2)
noncomputable def make_Fleet_l0  (s4 : Int × (List Int) × Int × (List api_Consumer)) : Option (Lp (Int × (List Int) × Int × (List api_Consumer)) ((List Int) × Int × (List api_Consumer))) :=
  if (decide (0 < s4.1)) = true then
    (make_Tape_Next (⟨s4.2.1, s4.2.2.1⟩ : make_Tape) 2).bind fun y5 =>
    (make_Tape_Next y5.2 2).bind fun y6 =>
    (make_Tape_Next y6.2 2).bind fun y7 =>
    (ck ((s4.2.2.2).length + ([(⟨y5.1, (y6.1 == 1), (y7.1 == 1)⟩ : api_Consumer)]).length ≤ 268435456)).bind fun _ =>
    some (.go (IntKind.i64.wrap (s4.1 - 1), y7.2.L, y7.2.at_, (s4.2.2.2 ++ [(⟨y5.1, (y6.1 == 1), (y7.1 == 1)⟩ : api_Consumer)])))
  else
    some (.out (s4.2.1, s4.2.2.1, s4.2.2.2))
noncomputable def make_Fleet (a0 : make_Tape) (a1 : Int) : Option (api_Fleet × make_Tape) :=
  (make_Tape_Between a0 1 2).bind fun y1 =>
  (make_Tape_Between y1.2 1 a1).bind fun y2 =>
  (iter (make_Fleet_l0) (y2.1, y2.2.L, y2.2.at_, [])).bind fun v3 =>
  some ((⟨y1.1, v3.2.2⟩ : api_Fleet), (⟨v3.1, v3.2.1⟩ : make_Tape))
noncomputable def ref32_in (a0 : Int) (a1 : Int) (a2 : Int) : Option (Bool) :=
  (some ((decide (a1 ≤ a0)) && (decide (a0 ≤ a2)))).bind fun v1 =>
  some v1
noncomputable def ref32_Valid_l0 (a0 : api_Fleet) (s3 : Int) : Option (Lp Int (Unit ⊕ Bool)) :=
  if (decide (s3 < ((a0.Consumers).length : Int))) = true then
    (idx a0.Consumers s3).bind fun x4 =>
    (ref32_in x4.Pool 0 7).bind fun y5 =>
    if (!y5) = true then
      some (.out (.inr false))
    else
      some (.go (IntKind.i64.wrap (s3 + 1)))
  else
    some (.out (.inl ()))
noncomputable def ref32_Valid (a0 : api_Fleet) : Option (Bool) :=
  Option.bind (
    (ref32_in a0.Slots 1 2).bind fun y8 =>
    if (!y8) = true then
      some true
    else
    (ref32_in ((a0.Consumers).length : Int) 1 8).bind fun y9 =>
    some (!y9)) fun v1 =>
  if v1 = true then
    some false
  else
  (iter (ref32_Valid_l0 a0) 0).bind fun q7 =>
  match q7 with
  | .inl v2 =>
    some true
  | .inr r6 =>
    some r6
noncomputable def ref32_Start_l0 (a0 : api_Fleet) (s3 : Int × (List api_Unit)) : Option (Lp (Int × (List api_Unit)) (List api_Unit)) :=
  if (decide (s3.1 < ((a0.Consumers).length : Int))) = true then
    (ck ((s3.2).length + ([(⟨true, 1, 1⟩ : api_Unit)]).length ≤ 268435456)).bind fun _ =>
    some (.go (IntKind.i64.wrap (s3.1 + 1), (s3.2 ++ [(⟨true, 1, 1⟩ : api_Unit)])))
  else
    some (.out s3.2)
noncomputable def ref32_Start (a0 : api_Fleet) : Option (api_Rotation × Int) :=
  (ref32_Valid a0).bind fun y1 =>
  if (!y1) = true then
    some ((⟨0, 0, []⟩ : api_Rotation), 36)
  else
  (iter (ref32_Start_l0 a0) (0, [])).bind fun v2 =>
  some ((⟨1, 1, v2⟩ : api_Rotation), 0)
noncomputable def make_Step (a0 : make_Tape) (a1 : api_Fleet) : Option (api_Step × make_Tape) :=
  (make_Tape_Between a0 1 8).bind fun y1 =>
  (some ((decide (4 ≤ y1.1)) && (decide (y1.1 ≤ 7)))).bind fun v2 =>
  if v2 = true then
    (make_Tape_Next y1.2 ((a1.Consumers).length : Int)).bind fun y3 =>
    some ((⟨y1.1, y3.1⟩ : api_Step), y3.2)
  else
    some ((⟨y1.1, 0⟩ : api_Step), y1.2)
noncomputable def ref32_bits (a0 : api_Consumer) (a1 : api_Rotation) (a2 : Int) : Option (Bool) :=
  Option.bind (
    (ref32_in a2 1 3).bind fun y2 =>
    if y2 = true then
      if ((bAndNot .i64 a2 a1.Known) == 0) = true then
        if (a2 != 3) = true then
          some true
        else
          some a0.Dual
      else
        some false
    else
      some false) fun v1 =>
  some v1
noncomputable def ref32_Right_l0 (a1 : api_Rotation) (a0 : api_Fleet) (s3 : Int) : Option (Lp Int (Unit ⊕ Bool)) :=
  if (decide (s3 < ((a1.Units).length : Int))) = true then
    (idx a1.Units s3).bind fun x4 =>
    (idx a0.Consumers s3).bind fun x5 =>
    Option.bind (
      (ref32_bits x5 a1 x4.Stored).bind fun y7 =>
      if (!y7) = true then
        some true
      else
      if (!x4.Up) = true then
        if (x4.Used != 0) = true then
          some true
        else
        if x4.Up = true then
          (ref32_bits x5 a1 x4.Used).bind fun y8 =>
          if (!y8) = true then
            some true
          else
          if x4.Up = true then
            if x5.Live = true then
              some (x4.Used != x4.Stored)
            else
              some false
          else
            some false
        else
        if x4.Up = true then
          if x5.Live = true then
            some (x4.Used != x4.Stored)
          else
            some false
        else
          some false
      else
      if x4.Up = true then
        (ref32_bits x5 a1 x4.Used).bind fun y9 =>
        if (!y9) = true then
          some true
        else
        if x4.Up = true then
          if x5.Live = true then
            some (x4.Used != x4.Stored)
          else
            some false
        else
          some false
      else
      if x4.Up = true then
        if x5.Live = true then
          some (x4.Used != x4.Stored)
        else
          some false
      else
        some false) fun v6 =>
    if v6 = true then
      some (.out (.inr false))
    else
      some (.go (IntKind.i64.wrap (s3 + 1)))
  else
    some (.out (.inl ()))
noncomputable def ref32_Right (a0 : api_Fleet) (a1 : api_Rotation) : Option (Bool) :=
  Option.bind (
    (ref32_Valid a0).bind fun y12 =>
    if (!y12) = true then
      some true
    else
    if (a1.Known != 1) = true then
      if (a1.Known != 3) = true then
        some true
      else
      (ref32_in a1.Valid 1 3).bind fun y13 =>
      if (!y13) = true then
        some true
      else
      if ((bAndNot .i64 a1.Valid a1.Known) != 0) = true then
        some true
      else
      if (a1.Valid == 3) = true then
        if (a0.Slots == 1) = true then
          some true
        else
          some (((a1.Units).length : Int) != ((a0.Consumers).length : Int))
      else
        some (((a1.Units).length : Int) != ((a0.Consumers).length : Int))
    else
    (ref32_in a1.Valid 1 3).bind fun y14 =>
    if (!y14) = true then
      some true
    else
    if ((bAndNot .i64 a1.Valid a1.Known) != 0) = true then
      some true
    else
    if (a1.Valid == 3) = true then
      if (a0.Slots == 1) = true then
        some true
      else
        some (((a1.Units).length : Int) != ((a0.Consumers).length : Int))
    else
      some (((a1.Units).length : Int) != ((a0.Consumers).length : Int))) fun v1 =>
  if v1 = true then
    some false
  else
  (iter (ref32_Right_l0 a1 a0) 0).bind fun q11 =>
  match q11 with
  | .inl v2 =>
    some true
  | .inr r10 =>
    some r10
noncomputable def ref33_kind_j1 (a1 : api_Step) (a0 : api_Fleet) (v2 : Bool) : Option Bool :=
  if v2 = true then
    (some ((decide (0 ≤ a1.Unit)) && (decide (a1.Unit < ((a0.Consumers).length : Int))))).bind fun v3 =>
    some v3
  else
    some false
noncomputable def ref33_kind_j0 (a1 : api_Step) (a0 : api_Fleet) (v1 : Bool) : Option Bool :=
  if v1 = true then
    some (a1.Unit == 0)
  else
  if (a1.Kind == 4) = true then
    ref33_kind_j1 a1 a0 (a1.Kind == 4)
  else
  if (a1.Kind == 5) = true then
    ref33_kind_j1 a1 a0 (a1.Kind == 5)
  else
  if (a1.Kind == 6) = true then
    ref33_kind_j1 a1 a0 (a1.Kind == 6)
  else
    ref33_kind_j1 a1 a0 (a1.Kind == 7)
noncomputable def ref33_kind (a0 : api_Fleet) (a1 : api_Step) : Option (Bool) :=
  if (a1.Kind == 1) = true then
    ref33_kind_j0 a1 a0 (a1.Kind == 1)
  else
  if (a1.Kind == 2) = true then
    ref33_kind_j0 a1 a0 (a1.Kind == 2)
  else
  if (a1.Kind == 3) = true then
    ref33_kind_j0 a1 a0 (a1.Kind == 3)
  else
    ref33_kind_j0 a1 a0 (a1.Kind == 8)
noncomputable def ref32_Copy (a0 : api_Rotation) : Option (api_Rotation) :=
  (ck ((a0.Units).length ≤ 268435456)).bind fun _ =>
  some a0
noncomputable def ref32_Copy_own2 (a0 : api_Rotation) : Option (api_Rotation) :=
  (ck ((a0.Units).length ≤ 268435456)).bind fun _ =>
  some a0
noncomputable def ref33_do_j1 (a2 : api_Step) (y1 : api_Rotation) (v4 : Bool × Bool × Int × Int) (v5 : Int) : Option (api_Rotation × Bool) :=
  (ck (0 ≤ a2.Unit ∧ (Int.toNat a2.Unit) < (y1.Units).length)).bind fun _ =>
  some ((⟨y1.Known, y1.Valid, (y1.Units.set (Int.toNat a2.Unit) (⟨v4.2.1, v4.2.2.1, v5⟩ : api_Unit))⟩ : api_Rotation), v4.1)
noncomputable def ref33_do_j0 (x3 : api_Consumer) (a2 : api_Step) (y1 : api_Rotation) (v4 : Bool × Bool × Int × Int) : Option (api_Rotation × Bool) :=
  (some (x3.Live && v4.2.1)).bind fun v6 =>
  if v6 = true then
    ref33_do_j1 a2 y1 v4 v4.2.2.1
  else
    ref33_do_j1 a2 y1 v4 v4.2.2.2
noncomputable def ref33_do (a0 : api_Fleet) (a1 : api_Rotation) (a2 : api_Step) : Option (api_Rotation × Bool) :=
  (ref32_Copy_own2 a1).bind fun y1 =>
  (ck (0 ≤ a2.Unit ∧ (Int.toNat a2.Unit) < (y1.Units).length)).bind fun _ =>
  (idx y1.Units a2.Unit).bind fun x2 =>
  (idx a0.Consumers a2.Unit).bind fun x3 =>
  if (a2.Kind == 1) = true then
    some ((⟨bOr .i64 y1.Known 2, y1.Valid, y1.Units⟩ : api_Rotation), (!((bAnd .i64 y1.Known 2) != 0)))
  else
  if (a2.Kind == 2) = true then
    (some (((bAnd .i64 y1.Known 2) != 0) && ((y1.Valid == 1) && (a0.Slots == 2)))).bind fun v7 =>
    some ((⟨y1.Known, bOr .i64 y1.Valid 2, y1.Units⟩ : api_Rotation), v7)
  else
  if (a2.Kind == 3) = true then
    (some (((bAnd .i64 y1.Known 2) != 0) && (y1.Valid == 1))).bind fun v8 =>
    some ((⟨y1.Known, 2, y1.Units⟩ : api_Rotation), v8)
  else
  if (a2.Kind == 8) = true then
    some ((⟨y1.Known, 2, y1.Units⟩ : api_Rotation), (y1.Valid == 3))
  else
  if (a2.Kind == 4) = true then
    (some (((bAnd .i64 y1.Known 2) != 0) && ((bAnd .i64 x2.Stored 2) == 0))).bind fun v9 =>
    if x3.Dual = true then
      ref33_do_j0 x3 a2 y1 (v9, x2.Up, 3, x2.Used)
    else
      ref33_do_j0 x3 a2 y1 (v9, x2.Up, 2, x2.Used)
  else
  if (a2.Kind == 7) = true then
    ref33_do_j0 x3 a2 y1 ((x2.Stored == 3), x2.Up, 2, x2.Used)
  else
  if (a2.Kind == 5) = true then
    ref33_do_j0 x3 a2 y1 (x2.Up, false, x2.Stored, 0)
  else
  if (a2.Kind == 6) = true then
    ref33_do_j0 x3 a2 y1 ((!x2.Up), true, x2.Stored, x2.Stored)
  else
    ref33_do_j0 x3 a2 y1 (false, x2.Up, x2.Stored, x2.Used)
noncomputable def ref33_Apply (a0 : api_Fleet) (a1 : api_Rotation) (a2 : api_Step) : Option (api_Rotation × Int) :=
  (ref32_Right a0 a1).bind fun y1 =>
  if (!y1) = true then
    some ((⟨0, 0, []⟩ : api_Rotation), 36)
  else
  (ref33_kind a0 a2).bind fun y2 =>
  if (!y2) = true then
    some ((⟨0, 0, []⟩ : api_Rotation), 2)
  else
  (ref33_do a0 a1 a2).bind fun y3 =>
  if (!y3.2) = true then
    some ((⟨0, 0, []⟩ : api_Rotation), 37)
  else
    some (y3.1, 0)
noncomputable def make_State_l0 (a1 : api_Fleet) (s4 : Int × (List Int) × Int × Int × Int × (List api_Unit)) : Option (Lp (Int × (List Int) × Int × Int × Int × (List api_Unit)) ((List Int) × Int × Int × Int × (List api_Unit))) :=
  if (decide (0 < s4.1)) = true then
    (make_Step (⟨s4.2.1, s4.2.2.1⟩ : make_Tape) a1).bind fun y5 =>
    (ref33_Apply a1 (⟨s4.2.2.2.1, s4.2.2.2.2.1, s4.2.2.2.2.2⟩ : api_Rotation) y5.1).bind fun y6 =>
    if (y6.2 == 0) = true then
      some (.go (IntKind.i64.wrap (s4.1 - 1), y5.2.L, y5.2.at_, y6.1.Known, y6.1.Valid, y6.1.Units))
    else
      some (.go (IntKind.i64.wrap (s4.1 - 1), y5.2.L, y5.2.at_, s4.2.2.2.1, s4.2.2.2.2.1, s4.2.2.2.2.2))
  else
    some (.out (s4.2.1, s4.2.2.1, s4.2.2.2.1, s4.2.2.2.2.1, s4.2.2.2.2.2))
noncomputable def make_State (a0 : make_Tape) (a1 : api_Fleet) : Option (api_Rotation × make_Tape) :=
  (ref32_Start a1).bind fun y1 =>
  if (y1.2 != 0) = true then
    some (y1.1, a0)
  else
  (make_Tape_Next a0 12).bind fun y2 =>
  (iter (make_State_l0 a1) (y2.1, y2.2.L, y2.2.at_, y1.1.Known, y1.1.Valid, y1.1.Units)).bind fun v3 =>
  some ((⟨v3.2.2.1, v3.2.2.2.1, v3.2.2.2.2⟩ : api_Rotation), (⟨v3.1, v3.2.1⟩ : make_Tape))
noncomputable def law32_FleetBits_l1 (y7 : api_Rotation) (y2 : api_Fleet × make_Tape) (s6 : Int) (s13 : Int) : Option (Lp Int (Unit ⊕ Bool)) :=
  if (decide (s13 < ((y7.Units).length : Int))) = true then
    (idx y7.Units s13).bind fun x14 =>
    Option.bind (
      (fleet_Serves y2.1 (⟨y7.Known, s6, y7.Units⟩ : api_Rotation) s13).bind fun y16 =>
      if x14.Up = true then
        some (y16 != ((bAnd .i64 x14.Used s6) != 0))
      else
        some (y16 != false)) fun v15 =>
    if v15 = true then
      some (.out (.inr false))
    else
      some (.go (IntKind.i64.wrap (s13 + 1)))
  else
    some (.out (.inl ()))
noncomputable def law32_FleetBits_l0 (y3 : api_Rotation × make_Tape) (y2 : api_Fleet × make_Tape) (s6 : Int) : Option (Lp Int (Unit ⊕ Bool)) :=
  if (decide (s6 ≤ 3)) = true then
    (ref32_Copy y3.1).bind fun y7 =>
    (fleet_Right y2.1 (⟨y7.Known, s6, y7.Units⟩ : api_Rotation)).bind fun y8 =>
    (ref32_Right y2.1 (⟨y7.Known, s6, y7.Units⟩ : api_Rotation)).bind fun y9 =>
    if (y8 != y9) = true then
      some (.out (.inr false))
    else
    (fleet_Right y2.1 (⟨y7.Known, s6, y7.Units⟩ : api_Rotation)).bind fun y10 =>
    if (!y10) = true then
      (fleet_Served y2.1 (⟨y7.Known, s6, y7.Units⟩ : api_Rotation)).bind fun y11 =>
      if (decide (0 < ((y11).length : Int))) = true then
        some (.out (.inr false))
      else
        some (.go (IntKind.i64.wrap (s6 + 1)))
    else
    (iter (law32_FleetBits_l1 y7 y2 s6) 0).bind fun q18 =>
    match q18 with
    | .inl v12 =>
      some (.go (IntKind.i64.wrap (s6 + 1)))
    | .inr r17 =>
      some (.out (.inr r17))
  else
    some (.out (.inl ()))
noncomputable def law32_FleetBits (a0 : List Int) : Option (Bool) :=
  if (decide (300 < ((a0).length : Int))) = true then
    (law32_awake).bind fun y1 =>
    some y1
  else
  (make_Fleet (⟨a0, 0⟩ : make_Tape) 5).bind fun y2 =>
  (make_State y2.2 y2.1).bind fun y3 =>
  (iter (law32_FleetBits_l0 y3 y2) 0).bind fun q20 =>
  match q20 with
  | .inl v4 =>
    (law32_awake).bind fun y5 =>
    some y5
  | .inr r19 =>
    some r19
noncomputable def ref32_Check (a0 : api_Fleet) : Option (Int) :=
  (ref32_Valid a0).bind fun y1 =>
  if (!y1) = true then
    some 36
  else
    some 0
noncomputable def ref32_Same_l0 (a0 : api_Rotation) (a1 : api_Rotation) (s3 : Int) : Option (Lp Int (Unit ⊕ Bool)) :=
  if (decide (s3 < ((a0.Units).length : Int))) = true then
    (idx a0.Units s3).bind fun x4 =>
    (idx a1.Units s3).bind fun x5 =>
    if (!((x4.Up == x5.Up) && ((x4.Stored == x5.Stored) && (x4.Used == x5.Used)))) = true then
      some (.out (.inr false))
    else
      some (.go (IntKind.i64.wrap (s3 + 1)))
  else
    some (.out (.inl ()))
noncomputable def ref32_Same (a0 : api_Rotation) (a1 : api_Rotation) : Option (Bool) :=
  (some ((a0.Known != a1.Known) || ((a0.Valid != a1.Valid) || (((a0.Units).length : Int) != ((a1.Units).length : Int))))).bind fun v1 =>
  if v1 = true then
    some false
  else
  (iter (ref32_Same_l0 a0 a1) 0).bind fun q7 =>
  match q7 with
  | .inl v2 =>
    some true
  | .inr r6 =>
    some r6
noncomputable def fleet_Pools_l0 (a0 : api_Fleet) (s5 : Int × (List Int)) : Option (Lp (Int × (List Int)) (List Int)) :=
  if (decide (s5.1 < ((a0.Consumers).length : Int))) = true then
    (idx a0.Consumers s5.1).bind fun x6 =>
    (ck ((s5.2).length + ([x6.Pool]).length ≤ 268435456)).bind fun _ =>
    some (.go (IntKind.i64.wrap (s5.1 + 1), (s5.2 ++ [x6.Pool])))
  else
    some (.out s5.2)
noncomputable def fleet_Pools (a0 : api_Fleet) : Option ((List Int)) :=
  (fleet_Check a0).bind fun y1 =>
  if (y1 != 0) = true then
    some []
  else
  (iter (fleet_Pools_l0 a0) (0, [])).bind fun v2 =>
  (slices_Sort_int_vec0 v2).bind fun y3 =>
  (slices_Compact_int_eat0_own0 y3).bind fun y4 =>
  some y4
noncomputable def ref32_Units_l0 (a0 : api_Fleet) (a1 : Int) (s3 : Int × (List Int)) : Option (Lp (Int × (List Int)) (List Int)) :=
  if (decide (s3.1 < ((a0.Consumers).length : Int))) = true then
    (idx a0.Consumers s3.1).bind fun x4 =>
    if (x4.Pool == a1) = true then
      (ck ((s3.2).length + ([s3.1]).length ≤ 268435456)).bind fun _ =>
      some (.go (IntKind.i64.wrap (s3.1 + 1), (s3.2 ++ [s3.1])))
    else
      some (.go (IntKind.i64.wrap (s3.1 + 1), s3.2))
  else
    some (.out s3.2)
noncomputable def ref32_Units (a0 : api_Fleet) (a1 : Int) : Option ((List Int)) :=
  (ref32_Valid a0).bind fun y1 =>
  if (!y1) = true then
    some []
  else
  (iter (ref32_Units_l0 a0 a1) (0, [])).bind fun v2 =>
  some v2
noncomputable def ref32_Pools_l0 (a0 : api_Fleet) (s2 : Int × (List Int)) : Option (Lp (Int × (List Int)) (List Int)) :=
  if (decide (s2.1 ≤ 7)) = true then
    (ref32_Units a0 s2.1).bind fun y3 =>
    if (decide (0 < ((y3).length : Int))) = true then
      (ck ((s2.2).length + ([s2.1]).length ≤ 268435456)).bind fun _ =>
      some (.go (IntKind.i64.wrap (s2.1 + 1), (s2.2 ++ [s2.1])))
    else
      some (.go (IntKind.i64.wrap (s2.1 + 1), s2.2))
  else
    some (.out s2.2)
noncomputable def ref32_Pools (a0 : api_Fleet) : Option ((List Int)) :=
  (iter (ref32_Pools_l0 a0) (0, [])).bind fun v1 =>
  some v1
noncomputable def law32_bend (a0 : make_Tape) (a1 : api_Rotation) : Option (api_Rotation × make_Tape) :=
  (ref32_Copy_own2 a1).bind fun y1 =>
  (make_Tape_Next a0 6).bind fun y2 =>
  if (y2.1 == 0) = true then
    (make_Tape_Next y2.2 4).bind fun y3 =>
    some ((⟨y3.1, y1.Valid, y1.Units⟩ : api_Rotation), y3.2)
  else
  if (y2.1 == 1) = true then
    (make_Tape_Between y2.2 (-1) 4).bind fun y4 =>
    some ((⟨y1.Known, y4.1, y1.Units⟩ : api_Rotation), y4.2)
  else
  if (y2.1 == 2) = true then
    (ck ((y1.Units).length + ([(⟨true, 1, 1⟩ : api_Unit)]).length ≤ 268435456)).bind fun _ =>
    some ((⟨y1.Known, y1.Valid, (y1.Units ++ [(⟨true, 1, 1⟩ : api_Unit)])⟩ : api_Rotation), y2.2)
  else
  if (decide (0 < ((y1.Units).length : Int))) = true then
    (make_Tape_Next y2.2 ((y1.Units).length : Int)).bind fun y5 =>
    (ck (0 ≤ y5.1 ∧ (Int.toNat y5.1) < (y1.Units).length)).bind fun _ =>
    (make_Tape_Next y5.2 3).bind fun y6 =>
    if (y6.1 == 0) = true then
      (idx y1.Units y5.1).bind fun x7 =>
      some ((⟨y1.Known, y1.Valid, (y1.Units.set (Int.toNat y5.1) (⟨(!x7.Up), x7.Stored, x7.Used⟩ : api_Unit))⟩ : api_Rotation), y6.2)
    else
    if (y6.1 == 1) = true then
      (make_Tape_Next y6.2 5).bind fun y8 =>
      (idx y1.Units y5.1).bind fun x9 =>
      some ((⟨y1.Known, y1.Valid, (y1.Units.set (Int.toNat y5.1) (⟨x9.Up, y8.1, x9.Used⟩ : api_Unit))⟩ : api_Rotation), y8.2)
    else
    (make_Tape_Next y6.2 5).bind fun y10 =>
    (idx y1.Units y5.1).bind fun x11 =>
    some ((⟨y1.Known, y1.Valid, (y1.Units.set (Int.toNat y5.1) (⟨x11.Up, x11.Stored, y10.1⟩ : api_Unit))⟩ : api_Rotation), y10.2)
  else
    some (y1, y2.2)
noncomputable def ref32_Ended_l0 (a1 : api_Rotation) (s3 : Int) : Option (Lp Int (Unit ⊕ Bool)) :=
  if (decide (s3 < ((a1.Units).length : Int))) = true then
    (idx a1.Units s3).bind fun x4 =>
    (some ((!x4.Up) || ((x4.Stored != 2) || (x4.Used != 2)))).bind fun v5 =>
    if v5 = true then
      some (.out (.inr false))
    else
      some (.go (IntKind.i64.wrap (s3 + 1)))
  else
    some (.out (.inl ()))
noncomputable def ref32_Ended (a0 : api_Fleet) (a1 : api_Rotation) : Option (Bool) :=
  Option.bind (
    (ref32_Right a0 a1).bind fun y8 =>
    if (!y8) = true then
      some true
    else
      some (a1.Valid != 2)) fun v1 =>
  if v1 = true then
    some false
  else
  (iter (ref32_Ended_l0 a1) 0).bind fun q7 =>
  match q7 with
  | .inl v2 =>
    some true
  | .inr r6 =>
    some r6
noncomputable def ref32_Serves (a0 : api_Fleet) (a1 : api_Rotation) (a2 : Int) : Option (Bool) :=
  Option.bind (
    (ref32_Right a0 a1).bind fun y2 =>
    if y2 = true then
      (ref32_in a2 0 (IntKind.i64.wrap (((a1.Units).length : Int) - 1))).bind fun y3 =>
      if y3 = true then
        (idx a1.Units a2).bind fun x4 =>
        if x4.Up = true then
          some ((bAnd .i64 x4.Used a1.Valid) != 0)
        else
          some false
      else
        some false
    else
      some false) fun v1 =>
  some v1
noncomputable def ref32_Served_l1 (y5 : (List Int)) (a0 : api_Fleet) (a1 : api_Rotation) (s3 : Int × (List Int)) (x4 : Int) (s7 : Int) : Option (Lp Int (List Int)) :=
  if (decide (s7 < ((y5).length : Int))) = true then
    (idx y5 s7).bind fun x8 =>
    (ref32_Serves a0 a1 x8).bind fun y9 =>
    if y9 = true then
      (ck ((s3.2).length + ([x4]).length ≤ 268435456)).bind fun _ =>
      some (.out (s3.2 ++ [x4]))
    else
      some (.go (IntKind.i64.wrap (s7 + 1)))
  else
    some (.out s3.2)
noncomputable def ref32_Served_l0 (y1 : (List Int)) (a0 : api_Fleet) (a1 : api_Rotation) (s3 : Int × (List Int)) : Option (Lp (Int × (List Int)) (List Int)) :=
  if (decide (s3.1 < ((y1).length : Int))) = true then
    (idx y1 s3.1).bind fun x4 =>
    (ref32_Units a0 x4).bind fun y5 =>
    (iter (ref32_Served_l1 y5 a0 a1 s3 x4) 0).bind fun v6 =>
    some (.go (IntKind.i64.wrap (s3.1 + 1), v6))
  else
    some (.out s3.2)
noncomputable def ref32_Served (a0 : api_Fleet) (a1 : api_Rotation) : Option ((List Int)) :=
  (ref32_Pools a0).bind fun y1 =>
  (iter (ref32_Served_l0 y1 a0 a1) (0, [])).bind fun v2 =>
  some v2
noncomputable def fleet_Units_l0 (a0 : api_Fleet) (a1 : Int) (s3 : Int × (List Int)) : Option (Lp (Int × (List Int)) (List Int)) :=
  if (decide (s3.1 < ((a0.Consumers).length : Int))) = true then
    (idx a0.Consumers s3.1).bind fun x4 =>
    if (x4.Pool == a1) = true then
      (ck ((s3.2).length + ([s3.1]).length ≤ 268435456)).bind fun _ =>
      some (.go (IntKind.i64.wrap (s3.1 + 1), (s3.2 ++ [s3.1])))
    else
      some (.go (IntKind.i64.wrap (s3.1 + 1), s3.2))
  else
    some (.out s3.2)
noncomputable def fleet_Units (a0 : api_Fleet) (a1 : Int) : Option ((List Int)) :=
  (fleet_Check a0).bind fun y1 =>
  if (y1 != 0) = true then
    some []
  else
  (iter (fleet_Units_l0 a0 a1) (0, [])).bind fun v2 =>
  some v2
noncomputable def law32_FleetExact_l2 (l22 : List (List Int)) (x10 : api_Fleet) (x18 : api_Rotation) (s24 : Int) : Option (Lp Int (Unit ⊕ Bool)) :=
  if (decide (s24 < 2)) = true then
    (ck (s24 < 2)).bind fun _ =>
    (idx l22 s24).bind fun x25 =>
    Option.bind (
      (fleet_Units x10 (arD x25 0)).bind fun y27 =>
      (ref32_Units x10 (arD x25 0)).bind fun y28 =>
      (ref23_Ints y27 y28).bind fun y29 =>
      if (!y29) = true then
        some true
      else
      (fleet_Serves x10 x18 (arD x25 1)).bind fun y30 =>
      (ref32_Serves x10 x18 (arD x25 1)).bind fun y31 =>
      some (y30 != y31)) fun v26 =>
    if v26 = true then
      some (.out (.inr false))
    else
      some (.go (IntKind.i64.wrap (s24 + 1)))
  else
    some (.out (.inl ()))
noncomputable def law32_FleetExact_l1 (l15 : List api_Rotation) (x10 : api_Fleet) (a3 : Int) (a4 : Int) (s17 : Int × (List Int) × Int) : Option (Lp (Int × (List Int) × Int) (((List Int) × Int) ⊕ Bool)) :=
  if (decide (s17.1 < 4)) = true then
    (ck (s17.1 < 4)).bind fun _ =>
    (idx l15 s17.1).bind fun x18 =>
    Option.bind (
      (fleet_Right x10 x18).bind fun y34 =>
      (ref32_Right x10 x18).bind fun y35 =>
      if (y34 != y35) = true then
        some true
      else
      (fleet_Ended x10 x18).bind fun y36 =>
      (ref32_Ended x10 x18).bind fun y37 =>
      if (y36 != y37) = true then
        some true
      else
      (fleet_Served x10 x18).bind fun y38 =>
      (ref32_Served x10 x18).bind fun y39 =>
      (ref23_Ints y38 y39).bind fun y40 =>
      some (!y40)) fun v19 =>
    if v19 = true then
      some (.out (.inr false))
    else
    (make_Tape_Next (⟨s17.2.1, s17.2.2⟩ : make_Tape) 3).bind fun y20 =>
    (make_Tape_Between y20.2 (-1) 4).bind fun y21 =>
    (some [[a3, a4], [y20.1, y21.1]]).bind fun l22 =>
    (iter (law32_FleetExact_l2 l22 x10 x18) 0).bind fun q33 =>
    match q33 with
    | .inl v23 =>
      some (.go (IntKind.i64.wrap (s17.1 + 1), y21.2.L, y21.2.at_))
    | .inr r32 =>
      some (.out (.inr r32))
  else
    some (.out (.inl (s17.2.1, s17.2.2)))
noncomputable def law32_FleetExact_l0 (l6 : List api_Fleet) (y5 : api_Rotation × make_Tape) (a2 : api_Rotation) (a3 : Int) (a4 : Int) (s9 : Int × (List Int) × Int) : Option (Lp (Int × (List Int) × Int) (Unit ⊕ Bool)) :=
  if (decide (s9.1 < 3)) = true then
    (ck (s9.1 < 3)).bind fun _ =>
    (idx l6 s9.1).bind fun x10 =>
    (fleet_Start x10).bind fun y11 =>
    (ref32_Start x10).bind fun y12 =>
    Option.bind (
      (fleet_Check x10).bind fun y43 =>
      (ref32_Check x10).bind fun y44 =>
      if (y43 != y44) = true then
        some true
      else
      if (y11.2 != y12.2) = true then
        some true
      else
      (ref32_Same y11.1 y12.1).bind fun y45 =>
      if (!y45) = true then
        some true
      else
      (fleet_Pools x10).bind fun y46 =>
      (ref32_Pools x10).bind fun y47 =>
      (ref23_Ints y46 y47).bind fun y48 =>
      some (!y48)) fun v13 =>
    if v13 = true then
      some (.out (.inr false))
    else
    (law32_bend (⟨s9.2.1, s9.2.2⟩ : make_Tape) y5.1).bind fun y14 =>
    (some [y5.1, y14.1, a2, y12.1]).bind fun l15 =>
    (iter (law32_FleetExact_l1 l15 x10 a3 a4) (0, y14.2.L, y14.2.at_)).bind fun q42 =>
    match q42 with
    | .inl v16 =>
      some (.go (IntKind.i64.wrap (s9.1 + 1), v16.1, v16.2))
    | .inr r41 =>
      some (.out (.inr r41))
  else
    some (.out (.inl ()))
noncomputable def law32_FleetExact (a0 : List Int) (a1 : api_Fleet) (a2 : api_Rotation) (a3 : Int) (a4 : Int) : Option (Bool) :=
  (some ((decide (300 < ((a0).length : Int))) || ((decide (12 < ((a1.Consumers).length : Int))) || (decide (12 < ((a2.Units).length : Int)))))).bind fun v1 =>
  if v1 = true then
    (law32_awake).bind fun y2 =>
    some y2
  else
  (make_Fleet (⟨a0, 0⟩ : make_Tape) 4).bind fun y3 =>
  (make_Tape_Between y3.2 0 3).bind fun y4 =>
  (make_State y4.2 y3.1).bind fun y5 =>
  (some [y3.1, (⟨y4.1, y3.1.Consumers⟩ : api_Fleet), a1]).bind fun l6 =>
  (iter (law32_FleetExact_l0 l6 y5 a2 a3 a4) (0, y5.2.L, y5.2.at_)).bind fun q50 =>
  match q50 with
  | .inl v7 =>
    (law32_awake).bind fun y8 =>
    some y8
  | .inr r49 =>
    some r49
noncomputable def ref23_Has_l0 (a0 : List Int) (a1 : Int) (s2 : Int) : Option (Lp Int (Unit ⊕ Bool)) :=
  if (decide (s2 < ((a0).length : Int))) = true then
    (idx a0 s2).bind fun x3 =>
    if (x3 == a1) = true then
      some (.out (.inr true))
    else
      some (.go (IntKind.i64.wrap (s2 + 1)))
  else
    some (.out (.inl ()))
noncomputable def ref23_Has (a0 : List Int) (a1 : Int) : Option (Bool) :=
  (iter (ref23_Has_l0 a0 a1) 0).bind fun q5 =>
  match q5 with
  | .inl v1 =>
    some false
  | .inr r4 =>
    some r4
noncomputable def law32_FleetServes_l2 (y14 : (List Int)) (y2 : api_Fleet × make_Tape) (y7 : api_Rotation × make_Tape) (s17 : Bool × Int) : Option (Lp (Bool × Int) Bool) :=
  if (decide (s17.2 < ((y14).length : Int))) = true then
    (idx y14 s17.2).bind fun x18 =>
    Option.bind (
      if s17.1 = true then
        some true
      else
      (fleet_Serves y2.1 y7.1 x18).bind fun y20 =>
      some y20) fun v19 =>
    some (.go (v19, IntKind.i64.wrap (s17.2 + 1)))
  else
    some (.out s17.1)
noncomputable def law32_FleetServes_l1 (y9 : (List Int)) (y2 : api_Fleet × make_Tape) (y7 : api_Rotation × make_Tape) (y8 : (List Int)) (s12 : Int) : Option (Lp Int (Unit ⊕ Bool)) :=
  if (decide (s12 < ((y9).length : Int))) = true then
    (idx y9 s12).bind fun x13 =>
    (fleet_Units y2.1 x13).bind fun y14 =>
    (iter (law32_FleetServes_l2 y14 y2 y7) (false, 0)).bind fun v15 =>
    (ref23_Has y8 x13).bind fun y16 =>
    if (v15 != y16) = true then
      some (.out (.inr false))
    else
      some (.go (IntKind.i64.wrap (s12 + 1)))
  else
    some (.out (.inl ()))
noncomputable def law32_FleetServes_l0 (y2 : api_Fleet × make_Tape) (s27 : Int × (List api_Unit)) : Option (Lp (Int × (List api_Unit)) (List api_Unit)) :=
  if (decide (s27.1 < ((y2.1.Consumers).length : Int))) = true then
    (ck ((s27.2).length + ([(⟨true, 2, 2⟩ : api_Unit)]).length ≤ 268435456)).bind fun _ =>
    some (.go (IntKind.i64.wrap (s27.1 + 1), (s27.2 ++ [(⟨true, 2, 2⟩ : api_Unit)])))
  else
    some (.out s27.2)
noncomputable def law32_FleetServes (a0 : List Int) : Option (Bool) :=
  if (decide (300 < ((a0).length : Int))) = true then
    (law32_awake).bind fun y1 =>
    some y1
  else
  (make_Fleet (⟨a0, 0⟩ : make_Tape) 5).bind fun y2 =>
  (fleet_Start y2.1).bind fun y3 =>
  Option.bind (
    if (y3.2 != 0) = true then
      some true
    else
    (fleet_Served y2.1 y3.1).bind fun y28 =>
    (fleet_Pools y2.1).bind fun y29 =>
    (ref23_Ints y28 y29).bind fun y30 =>
    if (!y30) = true then
      some true
    else
    (fleet_Pools y2.1).bind fun y31 =>
    some (((y31).length : Int) == 0)) fun v4 =>
  if v4 = true then
    some false
  else
  (iter (law32_FleetServes_l0 y2) (0, [])).bind fun v5 =>
  Option.bind (
    (fleet_Ended y2.1 (⟨3, 2, v5⟩ : api_Rotation)).bind fun y23 =>
    if (!y23) = true then
      some true
    else
    (fleet_Served y2.1 (⟨3, 2, v5⟩ : api_Rotation)).bind fun y24 =>
    (fleet_Pools y2.1).bind fun y25 =>
    (ref23_Ints y24 y25).bind fun y26 =>
    some (!y26)) fun v6 =>
  if v6 = true then
    some false
  else
  (make_State y2.2 y2.1).bind fun y7 =>
  (fleet_Served y2.1 y7.1).bind fun y8 =>
  (fleet_Pools y2.1).bind fun y9 =>
  (iter (law32_FleetServes_l1 y9 y2 y7 y8) 0).bind fun q22 =>
  match q22 with
  | .inl v10 =>
    (law32_awake).bind fun y11 =>
    some y11
  | .inr r21 =>
    some r21
noncomputable def law32_FleetPools_l1 (y2 : api_Fleet × make_Tape) (v4 : (List Int)) (s7 : Int) : Option (Lp Int (Unit ⊕ Bool)) :=
  if (decide (s7 < ((y2.1.Consumers).length : Int))) = true then
    (ck (0 ≤ s7 ∧ s7 < 8)).bind fun _ =>
    (idx v4 s7).bind fun x8 =>
    if (x8 != 1) = true then
      some (.out (.inr false))
    else
      some (.go (IntKind.i64.wrap (s7 + 1)))
  else
    some (.out (.inl ()))
noncomputable def law32_FleetPools_l2 (y13 : (List Int)) (y2 : api_Fleet × make_Tape) (x12 : Int) (s15 : Int × (List Int)) : Option (Lp (Int × (List Int)) ((List Int) ⊕ Bool)) :=
  if (decide (s15.1 < ((y13).length : Int))) = true then
    (idx y13 s15.1).bind fun x16 =>
    Option.bind (
      if (decide (x16 < 0)) = true then
        some true
      else
      if (decide (((y2.1.Consumers).length : Int) ≤ x16)) = true then
        some true
      else
      (idx y2.1.Consumers x16).bind fun x19 =>
      some (x19.Pool != x12)) fun v17 =>
    if v17 = true then
      some (.out (.inr false))
    else
    (ck (0 ≤ x16 ∧ x16 < 8)).bind fun _ =>
    (idx s15.2 x16).bind fun x18 =>
    (ck (0 ≤ x16 ∧ x16 < 8)).bind fun _ =>
    (ck ((Int.toNat x16) < (s15.2).length)).bind fun _ =>
    some (.go (IntKind.i64.wrap (s15.1 + 1), (s15.2.set (Int.toNat x16) (IntKind.i64.wrap (x18 + 1)))))
  else
    some (.out (.inl s15.2))
noncomputable def law32_FleetPools_l0 (y3 : (List Int)) (y2 : api_Fleet × make_Tape) (s11 : Int × (List Int)) : Option (Lp (Int × (List Int)) ((List Int) ⊕ Bool)) :=
  if (decide (s11.1 < ((y3).length : Int))) = true then
    (idx y3 s11.1).bind fun x12 =>
    (fleet_Units y2.1 x12).bind fun y13 =>
    (iter (law32_FleetPools_l2 y13 y2 x12) (0, s11.2)).bind fun q21 =>
    match q21 with
    | .inl v14 =>
      some (.go (IntKind.i64.wrap (s11.1 + 1), v14))
    | .inr r20 =>
      some (.out (.inr r20))
  else
    some (.out (.inl s11.2))
noncomputable def law32_FleetPools (a0 : List Int) : Option (Bool) :=
  if (decide (300 < ((a0).length : Int))) = true then
    (law32_awake).bind fun y1 =>
    some y1
  else
  (make_Fleet (⟨a0, 0⟩ : make_Tape) 8).bind fun y2 =>
  (fleet_Pools y2.1).bind fun y3 =>
  (iter (law32_FleetPools_l0 y3 y2) (0, (zerosI 8))).bind fun q23 =>
  match q23 with
  | .inl v4 =>
    (iter (law32_FleetPools_l1 y2 v4) 0).bind fun q10 =>
    match q10 with
    | .inl v5 =>
      (law32_awake).bind fun y6 =>
      some y6
    | .inr r9 =>
      some r9
  | .inr r22 =>
    some r22
noncomputable def slices_Clone_api_Unit (a0 : List api_Unit) : Option (List api_Unit) :=
  (ck ((a0).length ≤ 268435456)).bind fun _ =>
  some a0
noncomputable def fleet_Copy (a0 : api_Rotation) : Option (api_Rotation) :=
  (slices_Clone_api_Unit a0.Units).bind fun y1 =>
  some (⟨a0.Known, a0.Valid, y1⟩ : api_Rotation)
noncomputable def steps_change_j0 (a0 : api_Consumer) (a1 : api_Unit) (v1 : Bool × Int) : Option (Bool × api_Unit) :=
  (some (a0.Live && a1.Up)).bind fun v2 =>
  if v2 = true then
    some (v1.1, (⟨a1.Up, v1.2, v1.2⟩ : api_Unit))
  else
    some (v1.1, (⟨a1.Up, v1.2, a1.Used⟩ : api_Unit))
noncomputable def steps_change (a0 : api_Consumer) (a1 : api_Unit) (a2 : Int) (a3 : Bool) : Option (Bool × api_Unit) :=
  if (a2 == 4) = true then
    (some (a3 && (a1.Stored == 1))).bind fun v3 =>
    if a0.Dual = true then
      steps_change_j0 a0 a1 (v3, 3)
    else
      steps_change_j0 a0 a1 (v3, 2)
  else
  if (a2 == 7) = true then
    steps_change_j0 a0 a1 ((a1.Stored == 3), 2)
  else
  if (a2 == 5) = true then
    some (a1.Up, (⟨false, a1.Stored, 0⟩ : api_Unit))
  else
  if (a2 == 6) = true then
    some ((!a1.Up), (⟨true, a1.Stored, a1.Stored⟩ : api_Unit))
  else
    steps_change_j0 a0 a1 (false, a1.Stored)
noncomputable def slices_Clone_api_Unit_own0 (a0 : List api_Unit) : Option (List api_Unit) :=
  (ck ((a0).length ≤ 268435456 ∧ 0 < (a0).length)).bind fun _ =>
  some a0
noncomputable def fleet_Copy_own2 (a0 : api_Rotation) : Option (api_Rotation) :=
  (slices_Clone_api_Unit_own0 a0.Units).bind fun y1 =>
  some (⟨a0.Known, a0.Valid, y1⟩ : api_Rotation)
noncomputable def steps_change_el1_2_j0 (a0 : api_Consumer) (a1 : Int) (g1 : api_Rotation) (v1 : Bool × (List api_Unit)) : Option (Bool × api_Rotation) :=
  Option.bind (
    if a0.Live = true then
      (idx v1.2 a1).bind fun x4 =>
      some x4.Up
    else
      some false) fun v2 =>
  if v2 = true then
    (idx v1.2 a1).bind fun x3 =>
    some (v1.1, (⟨g1.Known, g1.Valid, (v1.2.set (Int.toNat a1) (⟨x3.Up, x3.Stored, x3.Stored⟩ : api_Unit))⟩ : api_Rotation))
  else
    some (v1.1, (⟨g1.Known, g1.Valid, v1.2⟩ : api_Rotation))
noncomputable def steps_change_el1_2 (a0 : api_Consumer) (g1 : api_Rotation) (a1 : Int) (a2 : Int) (a3 : Bool) : Option (Bool × api_Rotation) :=
  if (a2 == 4) = true then
    Option.bind (
      if a3 = true then
        (idx g1.Units a1).bind fun x7 =>
        some (x7.Stored == 1)
      else
        some false) fun v5 =>
    (idx g1.Units a1).bind fun x6 =>
    if a0.Dual = true then
      steps_change_el1_2_j0 a0 a1 g1 (v5, (g1.Units.set (Int.toNat a1) (⟨x6.Up, 3, x6.Used⟩ : api_Unit)))
    else
      steps_change_el1_2_j0 a0 a1 g1 (v5, (g1.Units.set (Int.toNat a1) (⟨x6.Up, 2, x6.Used⟩ : api_Unit)))
  else
  if (a2 == 7) = true then
    (idx g1.Units a1).bind fun x8 =>
    steps_change_el1_2_j0 a0 a1 g1 ((x8.Stored == 3), (g1.Units.set (Int.toNat a1) (⟨x8.Up, 2, x8.Used⟩ : api_Unit)))
  else
  if (a2 == 5) = true then
    (idx g1.Units a1).bind fun x9 =>
    some (x9.Up, (⟨g1.Known, g1.Valid, (g1.Units.set (Int.toNat a1) (⟨false, x9.Stored, 0⟩ : api_Unit))⟩ : api_Rotation))
  else
  if (a2 == 6) = true then
    (idx g1.Units a1).bind fun x10 =>
    some ((!x10.Up), (⟨g1.Known, g1.Valid, (g1.Units.set (Int.toNat a1) (⟨true, x10.Stored, x10.Stored⟩ : api_Unit))⟩ : api_Rotation))
  else
    steps_change_el1_2_j0 a0 a1 g1 (false, g1.Units)
noncomputable def steps_step_o1_2 (a0 : api_Fleet) (a1 : api_Rotation) (a2 : api_Step) : Option (Bool × api_Rotation) :=
  if (a2.Kind == 1) = true then
    some ((!((bAnd .i64 a1.Known 2) != 0)), (⟨bOr .i64 a1.Known 2, a1.Valid, a1.Units⟩ : api_Rotation))
  else
  if (a2.Kind == 2) = true then
    (some (((bAnd .i64 a1.Known 2) != 0) && ((a1.Valid == 1) && (a0.Slots == 2)))).bind fun v1 =>
    some (v1, (⟨a1.Known, 3, a1.Units⟩ : api_Rotation))
  else
  if (a2.Kind == 3) = true then
    (some (((bAnd .i64 a1.Known 2) != 0) && (a1.Valid == 1))).bind fun v2 =>
    some (v2, (⟨a1.Known, 2, a1.Units⟩ : api_Rotation))
  else
  if (a2.Kind == 8) = true then
    some ((a1.Valid == 3), (⟨a1.Known, 2, a1.Units⟩ : api_Rotation))
  else
  (idx a0.Consumers a2.Unit).bind fun x3 =>
  (ck (0 ≤ a2.Unit ∧ (Int.toNat a2.Unit) < (a1.Units).length)).bind fun _ =>
  (steps_change_el1_2 x3 a1 a2.Unit a2.Kind ((bAnd .i64 a1.Known 2) != 0)).bind fun y4 =>
  some (y4.1, y4.2)
noncomputable def steps_Apply (a0 : api_Fleet) (a1 : api_Rotation) (a2 : api_Step) : Option (api_Rotation × Int) :=
  (some (bif (decide (1 ≤ a2.Kind)) then ((decide (a2.Kind ≤ 3)) || (a2.Kind == 8)) else (a2.Kind == 8))).bind fun v1 =>
  (fleet_Right a0 a1).bind fun y2 =>
  if (!y2) = true then
    some ((⟨0, 0, []⟩ : api_Rotation), 36)
  else
  (some ((decide (a2.Kind < 1)) || ((decide (8 < a2.Kind)) || ((decide (a2.Unit < 0)) || ((decide (((a1.Units).length : Int) ≤ a2.Unit)) || (v1 && (a2.Unit != 0))))))).bind fun v3 =>
  if v3 = true then
    some ((⟨0, 0, []⟩ : api_Rotation), 2)
  else
  (fleet_Copy_own2 a1).bind fun y4 =>
  (steps_step_o1_2 a0 y4 a2).bind fun y5 =>
  if (!y5.1) = true then
    some ((⟨0, 0, []⟩ : api_Rotation), 37)
  else
    some (y5.2, 0)
noncomputable def slices_Index_int_l0 (a0 : List Int) (a1 : Int) (s2 : Int) : Option (Lp Int (Unit ⊕ Int)) :=
  if (decide (s2 < ((a0).length : Int))) = true then
    (idx a0 s2).bind fun x3 =>
    if (a1 == x3) = true then
      some (.out (.inr s2))
    else
      some (.go (IntKind.i64.wrap (s2 + 1)))
  else
    some (.out (.inl ()))
noncomputable def slices_Index_int (a0 : List Int) (a1 : Int) : Option (Int) :=
  (iter (slices_Index_int_l0 a0 a1) 0).bind fun q5 =>
  match q5 with
  | .inl v1 =>
    some (-1)
  | .inr r4 =>
    some r4
noncomputable def slices_Contains_int (a0 : List Int) (a1 : Int) : Option (Bool) :=
  (slices_Index_int a0 a1).bind fun y1 =>
  some (decide (0 ≤ y1))
noncomputable def steps_holds_1_cb (a0 : Int) (a1 : List Int) : Option (Bool × (List Int)) :=
  (slices_Contains_int a1 a0).bind fun y1 =>
  some ((!y1), a1)
noncomputable def slices_IndexFunc_int_at_steps_holds_1_b_l0 (a0 : List Int) (s2 : Int × (List Int)) : Option (Lp (Int × (List Int)) ((List Int) ⊕ (Int × (List Int)))) :=
  if (decide (s2.1 < ((a0).length : Int))) = true then
    (idx a0 s2.1).bind fun x3 =>
    (steps_holds_1_cb x3 s2.2).bind fun y4 =>
    if y4.1 = true then
      some (.out (.inr (s2.1, y4.2)))
    else
      some (.go (IntKind.i64.wrap (s2.1 + 1), y4.2))
  else
    some (.out (.inl s2.2))
noncomputable def slices_IndexFunc_int_at_steps_holds_1_b (a0 : List Int) (b10 : List Int) : Option (Int × (List Int)) :=
  (iter (slices_IndexFunc_int_at_steps_holds_1_b_l0 a0) (0, b10)).bind fun q6 =>
  match q6 with
  | .inl v1 =>
    some ((-1), v1)
  | .inr r5 =>
    some r5
noncomputable def slices_ContainsFunc_int_at_steps_holds_1_b (a0 : List Int) (b10 : List Int) : Option (Bool × (List Int)) :=
  (slices_IndexFunc_int_at_steps_holds_1_b a0 b10).bind fun y1 =>
  some ((decide (0 ≤ y1.1)), y1.2)
noncomputable def steps_holds (a0 : api_Fleet) (a1 : api_Rotation) (a2 : api_Rotation) : Option (Bool) :=
  (fleet_Served a0 a2).bind fun y1 =>
  (fleet_Served a0 a1).bind fun y2 =>
  (slices_ContainsFunc_int_at_steps_holds_1_b y2 y1).bind fun y3 =>
  some (!y3.1)
noncomputable def steps_Safe (a0 : api_Fleet) (a1 : api_Rotation) (a2 : api_Step) : Option (Bool) :=
  (steps_Apply a0 a1 a2).bind fun y1 =>
  Option.bind (
    if (y1.2 == 0) = true then
      (steps_holds a0 a1 y1.1).bind fun y3 =>
      some y3
    else
      some false) fun v2 =>
  some v2
noncomputable def steps_Possible (a0 : api_Fleet) (a1 : api_Rotation) (a2 : api_Step) : Option (Bool) :=
  (steps_Apply a0 a1 a2).bind fun y1 =>
  some (y1.2 == 0)
noncomputable def law33_awake  : Option (Bool) :=
  (ref32_Start (⟨2, [(⟨0, false, false⟩ : api_Consumer)]⟩ : api_Fleet)).bind fun y1 =>
  (steps_Apply (⟨2, [(⟨0, false, false⟩ : api_Consumer)]⟩ : api_Fleet) y1.1 (⟨1, 0⟩ : api_Step)).bind fun y2 =>
  Option.bind (
    if (y2.2 == 0) = true then
      if (y2.1.Known == 3) = true then
        (steps_Safe (⟨2, [(⟨0, false, false⟩ : api_Consumer)]⟩ : api_Fleet) y1.1 (⟨1, 0⟩ : api_Step)).bind fun y4 =>
        if y4 = true then
          (steps_Safe (⟨2, [(⟨0, false, false⟩ : api_Consumer)]⟩ : api_Fleet) y1.1 (⟨5, 0⟩ : api_Step)).bind fun y5 =>
          if (!y5) = true then
            (steps_Possible (⟨2, [(⟨0, false, false⟩ : api_Consumer)]⟩ : api_Fleet) y1.1 (⟨5, 0⟩ : api_Step)).bind fun y6 =>
            some y6
          else
            some false
        else
          some false
      else
        some false
    else
      some false) fun v3 =>
  some v3
noncomputable def law33_StepsRight_l0 (y2 : api_Fleet × make_Tape) (s6 : Int × (List Int) × Int × Int × Int × (List api_Unit)) : Option (Lp (Int × (List Int) × Int × Int × Int × (List api_Unit)) (Unit ⊕ Bool)) :=
  if (decide (s6.1 < 8)) = true then
    (make_Step (⟨s6.2.1, s6.2.2.1⟩ : make_Tape) y2.1).bind fun y7 =>
    (steps_Apply y2.1 (⟨s6.2.2.2.1, s6.2.2.2.2.1, s6.2.2.2.2.2⟩ : api_Rotation) y7.1).bind fun y8 =>
    if (y8.2 != 0) = true then
      Option.bind (
        if (y8.2 != 37) = true then
          some true
        else
        (steps_Possible y2.1 (⟨s6.2.2.2.1, s6.2.2.2.2.1, s6.2.2.2.2.2⟩ : api_Rotation) y7.1).bind fun y10 =>
        some y10) fun v9 =>
      if v9 = true then
        some (.out (.inr false))
      else
        some (.go (IntKind.i64.wrap (s6.1 + 1), y7.2.L, y7.2.at_, s6.2.2.2.1, s6.2.2.2.2.1, s6.2.2.2.2.2))
    else
    Option.bind (
      (ref32_Right y2.1 y8.1).bind fun y12 =>
      if (!y12) = true then
        some true
      else
      (ref32_Same (⟨s6.2.2.2.1, s6.2.2.2.2.1, s6.2.2.2.2.2⟩ : api_Rotation) y8.1).bind fun y13 =>
      if y13 = true then
        some true
      else
      if ((bAnd .i64 y8.1.Valid 1) != 0) = true then
        if ((bAnd .i64 s6.2.2.2.2.1 1) == 0) = true then
          some true
        else
        if ((bAndNot .i64 s6.2.2.2.1 y8.1.Known) != 0) = true then
          some true
        else
        if ((bAnd .i64 s6.2.2.2.2.1 2) != 0) = true then
          some ((bAnd .i64 y8.1.Valid 2) == 0)
        else
          some false
      else
      if ((bAndNot .i64 s6.2.2.2.1 y8.1.Known) != 0) = true then
        some true
      else
      if ((bAnd .i64 s6.2.2.2.2.1 2) != 0) = true then
        some ((bAnd .i64 y8.1.Valid 2) == 0)
      else
        some false) fun v11 =>
    if v11 = true then
      some (.out (.inr false))
    else
      some (.go (IntKind.i64.wrap (s6.1 + 1), y7.2.L, y7.2.at_, y8.1.Known, y8.1.Valid, y8.1.Units))
  else
    some (.out (.inl ()))
noncomputable def law33_StepsRight (a0 : List Int) : Option (Bool) :=
  if (decide (300 < ((a0).length : Int))) = true then
    (law33_awake).bind fun y1 =>
    some y1
  else
  (make_Fleet (⟨a0, 0⟩ : make_Tape) 4).bind fun y2 =>
  (make_State y2.2 y2.1).bind fun y3 =>
  (iter (law33_StepsRight_l0 y2) (0, y3.2.L, y3.2.at_, y3.1.Known, y3.1.Valid, y3.1.Units)).bind fun q15 =>
  match q15 with
  | .inl v4 =>
    (law33_awake).bind fun y5 =>
    some y5
  | .inr r14 =>
    some r14
noncomputable def law33_StepsApart_l1 (s6 : Int × (List Int) × Int × Int × Int × (List api_Unit)) (v9 : Bool) (y8 : api_Rotation × Int) (y7 : api_Step × make_Tape) (s12 : Int) : Option (Lp Int (Unit ⊕ Bool)) :=
  if (decide (s12 < ((s6.2.2.2.2.2).length : Int))) = true then
    Option.bind (
      if (!v9) = true then
        (idx y8.1.Units s12).bind fun x14 =>
        (idx s6.2.2.2.2.2 s12).bind fun x15 =>
        some (!((x14.Up == x15.Up) && ((x14.Stored == x15.Stored) && (x14.Used == x15.Used))))
      else
      if (s12 != y7.1.Unit) = true then
        (idx y8.1.Units s12).bind fun x16 =>
        (idx s6.2.2.2.2.2 s12).bind fun x17 =>
        some (!((x16.Up == x17.Up) && ((x16.Stored == x17.Stored) && (x16.Used == x17.Used))))
      else
        some false) fun v13 =>
    if v13 = true then
      some (.out (.inr false))
    else
      some (.go (IntKind.i64.wrap (s12 + 1)))
  else
    some (.out (.inl ()))
noncomputable def law33_StepsApart_l0 (y2 : api_Fleet × make_Tape) (s6 : Int × (List Int) × Int × Int × Int × (List api_Unit)) : Option (Lp (Int × (List Int) × Int × Int × Int × (List api_Unit)) (Unit ⊕ Bool)) :=
  if (decide (s6.1 < 6)) = true then
    (make_Step (⟨s6.2.1, s6.2.2.1⟩ : make_Tape) y2.1).bind fun y7 =>
    (steps_Apply y2.1 (⟨s6.2.2.2.1, s6.2.2.2.2.1, s6.2.2.2.2.2⟩ : api_Rotation) y7.1).bind fun y8 =>
    if (y8.2 != 0) = true then
      some (.go (IntKind.i64.wrap (s6.1 + 1), y7.2.L, y7.2.at_, s6.2.2.2.1, s6.2.2.2.2.1, s6.2.2.2.2.2))
    else
    if (((y8.1.Units).length : Int) != ((s6.2.2.2.2.2).length : Int)) = true then
      some (.out (.inr false))
    else
    (some ((decide (4 ≤ y7.1.Kind)) && (decide (y7.1.Kind ≤ 7)))).bind fun v9 =>
    (some (v9 && ((y8.1.Known != s6.2.2.2.1) || (y8.1.Valid != s6.2.2.2.2.1)))).bind fun v10 =>
    if v10 = true then
      some (.out (.inr false))
    else
    (iter (law33_StepsApart_l1 s6 v9 y8 y7) 0).bind fun q19 =>
    match q19 with
    | .inl v11 =>
      some (.go (IntKind.i64.wrap (s6.1 + 1), y7.2.L, y7.2.at_, y8.1.Known, y8.1.Valid, y8.1.Units))
    | .inr r18 =>
      some (.out (.inr r18))
  else
    some (.out (.inl ()))
noncomputable def law33_StepsApart (a0 : List Int) : Option (Bool) :=
  if (decide (300 < ((a0).length : Int))) = true then
    (law33_awake).bind fun y1 =>
    some y1
  else
  (make_Fleet (⟨a0, 0⟩ : make_Tape) 4).bind fun y2 =>
  (make_State y2.2 y2.1).bind fun y3 =>
  (iter (law33_StepsApart_l0 y2) (0, y3.2.L, y3.2.at_, y3.1.Known, y3.1.Valid, y3.1.Units)).bind fun q21 =>
  match q21 with
  | .inl v4 =>
    (law33_awake).bind fun y5 =>
    some y5
  | .inr r20 =>
    some r20
noncomputable def steps_Choices_l1 (a1 : api_Rotation) (a0 : api_Fleet) (s2 : Int × (List api_Step)) (s4 : Int × (List api_Step)) : Option (Lp (Int × (List api_Step)) (List api_Step)) :=
  if (decide (s4.1 < ((a1.Units).length : Int))) = true then
    (steps_Safe a0 a1 (⟨s2.1, s4.1⟩ : api_Step)).bind fun y5 =>
    if y5 = true then
      (ck ((s4.2).length + ([(⟨s2.1, s4.1⟩ : api_Step)]).length ≤ 268435456)).bind fun _ =>
      some (.go (IntKind.i64.wrap (s4.1 + 1), (s4.2 ++ [(⟨s2.1, s4.1⟩ : api_Step)])))
    else
      some (.go (IntKind.i64.wrap (s4.1 + 1), s4.2))
  else
    some (.out s4.2)
noncomputable def steps_Choices_l0 (a1 : api_Rotation) (a0 : api_Fleet) (s2 : Int × (List api_Step)) : Option (Lp (Int × (List api_Step)) (List api_Step)) :=
  if (decide (s2.1 ≤ 8)) = true then
    (iter (steps_Choices_l1 a1 a0 s2) (0, s2.2)).bind fun v3 =>
    some (.go (IntKind.i64.wrap (s2.1 + 1), v3))
  else
    some (.out s2.2)
noncomputable def steps_Choices (a0 : api_Fleet) (a1 : api_Rotation) : Option ((List api_Step)) :=
  (iter (steps_Choices_l0 a1 a0) (1, [])).bind fun v1 =>
  some v1
noncomputable def make_Steps_l0 (a3 : Int) (a1 : api_Fleet) (s2 : Int × (List Int) × Int × Int × Int × (List api_Unit) × (List api_Step)) : Option (Lp (Int × (List Int) × Int × Int × Int × (List api_Unit) × (List api_Step)) ((List Int) × Int × (List api_Step))) :=
  if (decide (s2.1 < a3)) = true then
    (make_Step (⟨s2.2.1, s2.2.2.1⟩ : make_Tape) a1).bind fun y3 =>
    (ref33_Apply a1 (⟨s2.2.2.2.1, s2.2.2.2.2.1, s2.2.2.2.2.2.1⟩ : api_Rotation) y3.1).bind fun y4 =>
    Option.bind (
      if (y4.2 != 0) = true then
        (make_Tape_Next y3.2 8).bind fun y6 =>
        some ((decide (0 < y6.1)), y6.2.L, y6.2.at_)
      else
        some (false, y3.2.L, y3.2.at_)) fun v5 =>
    if v5.1 = true then
      some (.go (IntKind.i64.wrap (s2.1 + 1), v5.2.1, v5.2.2, s2.2.2.2.1, s2.2.2.2.2.1, s2.2.2.2.2.2.1, s2.2.2.2.2.2.2))
    else
    (ck ((s2.2.2.2.2.2.2).length + ([y3.1]).length ≤ 268435456)).bind fun _ =>
    if (y4.2 == 0) = true then
      some (.go (IntKind.i64.wrap (s2.1 + 1), v5.2.1, v5.2.2, y4.1.Known, y4.1.Valid, y4.1.Units, (s2.2.2.2.2.2.2 ++ [y3.1])))
    else
      some (.go (IntKind.i64.wrap (s2.1 + 1), v5.2.1, v5.2.2, s2.2.2.2.1, s2.2.2.2.2.1, s2.2.2.2.2.2.1, (s2.2.2.2.2.2.2 ++ [y3.1])))
  else
    some (.out (s2.2.1, s2.2.2.1, s2.2.2.2.2.2.2))
noncomputable def make_Steps (a0 : make_Tape) (a1 : api_Fleet) (a2 : api_Rotation) (a3 : Int) : Option ((List api_Step) × make_Tape) :=
  (iter (make_Steps_l0 a3 a1) (0, a0.L, a0.at_, a2.Known, a2.Valid, a2.Units, [])).bind fun v1 =>
  some (v1.2.2, (⟨v1.1, v1.2.1⟩ : make_Tape))
noncomputable def steps_check (a0 : api_Fleet) (a1 : api_Rotation) (a2 : List api_Step) : Option (Int) :=
  (fleet_Right a0 a1).bind fun y1 =>
  if (!y1) = true then
    some 36
  else
  if (decide (120 < ((a2).length : Int))) = true then
    some 3
  else
    some 0
noncomputable def steps_Run_l0 (a2 : List api_Step) (a0 : api_Fleet) (s3 : Int × Int × Int × (List api_Unit) × (List api_Rotation)) : Option (Lp (Int × Int × Int × (List api_Unit) × (List api_Rotation)) ((List api_Rotation) ⊕ ((List api_Rotation) × Int))) :=
  if (decide (s3.1 < ((a2).length : Int))) = true then
    (idx a2 s3.1).bind fun x4 =>
    (steps_Apply a0 (⟨s3.2.1, s3.2.2.1, s3.2.2.2.1⟩ : api_Rotation) x4).bind fun y5 =>
    if (y5.2 != 0) = true then
      some (.out (.inr ([], y5.2)))
    else
    (ck ((s3.2.2.2.2).length + ([y5.1]).length ≤ 268435456)).bind fun _ =>
    some (.go (IntKind.i64.wrap (s3.1 + 1), y5.1.Known, y5.1.Valid, y5.1.Units, (s3.2.2.2.2 ++ [y5.1])))
  else
    some (.out (.inl s3.2.2.2.2))
noncomputable def steps_Run (a0 : api_Fleet) (a1 : api_Rotation) (a2 : List api_Step) : Option ((List api_Rotation) × Int) :=
  (steps_check a0 a1 a2).bind fun y1 =>
  if (y1 != 0) = true then
    some ([], y1)
  else
  (iter (steps_Run_l0 a2 a0) (0, a1.Known, a1.Valid, a1.Units, [])).bind fun q7 =>
  match q7 with
  | .inl v2 =>
    some (v2, 0)
  | .inr r6 =>
    some r6
noncomputable def ref32_All_l0 (a0 : List api_Rotation) (a1 : List api_Rotation) (s2 : Int) : Option (Lp Int (Unit ⊕ Bool)) :=
  if (decide (s2 < ((a0).length : Int))) = true then
    (idx a0 s2).bind fun x3 =>
    (idx a1 s2).bind fun x4 =>
    (ref32_Same x3 x4).bind fun y5 =>
    if (!y5) = true then
      some (.out (.inr false))
    else
      some (.go (IntKind.i64.wrap (s2 + 1)))
  else
    some (.out (.inl ()))
noncomputable def ref32_All (a0 : List api_Rotation) (a1 : List api_Rotation) : Option (Bool) :=
  if (((a0).length : Int) != ((a1).length : Int)) = true then
    some false
  else
  (iter (ref32_All_l0 a0 a1) 0).bind fun q7 =>
  match q7 with
  | .inl v1 =>
    some true
  | .inr r6 =>
    some r6
noncomputable def law33_StepsChoices_j2 (y14 : Int × make_Tape) (y10 : (List api_Step) × make_Tape) (y2 : api_Fleet × make_Tape) (y15 : (List api_Rotation) × Int) (y11 : (List api_Rotation) × Int) (v17 : Int × Int × (List api_Unit)) : Option Bool :=
  (ck (0 ≤ y14.1 ∧ y14.1 ≤ ((y10.1).length : Int) ∧ ((y10.1).length : Int) ≤ ((y10.1).length : Int))).bind fun _ =>
  (steps_Run y2.1 (⟨v17.1, v17.2.1, v17.2.2⟩ : api_Rotation) ((y10.1).drop (Int.toNat y14.1))).bind fun y18 =>
  Option.bind (
    if (y18.2 == 0) = true then
      (ck ((y15.1).length ≤ 268435456)).bind fun _ =>
      (ck ((y15.1).length + (y18.1).length ≤ 268435456)).bind fun _ =>
      (ref32_All (y15.1 ++ y18.1) y11.1).bind fun y20 =>
      if y20 = true then
        (law33_awake).bind fun y21 =>
        some y21
      else
        some false
    else
      some false) fun v19 =>
  some v19
noncomputable def law33_StepsChoices_l1 (y7 : (List api_Step)) (y6 : api_Step × make_Tape) (s23 : Bool × Int) : Option (Lp (Bool × Int) Bool) :=
  if (decide (s23.2 < ((y7).length : Int))) = true then
    (idx y7 s23.2).bind fun x24 =>
    (some (s23.1 || ((y6.1.Kind == x24.Kind) && (y6.1.Unit == x24.Unit)))).bind fun v25 =>
    some (.go (v25, IntKind.i64.wrap (s23.2 + 1)))
  else
    some (.out s23.1)
noncomputable def law33_StepsChoices_l0 (y4 : (List api_Step)) (y2 : api_Fleet × make_Tape) (y3 : api_Rotation × make_Tape) (s26 : Int) : Option (Lp Int (Unit ⊕ Bool)) :=
  if (decide (s26 < ((y4).length : Int))) = true then
    (idx y4 s26).bind fun x27 =>
    Option.bind (
      (steps_Safe y2.1 y3.1 x27).bind fun y29 =>
      if (!y29) = true then
        some true
      else
      (steps_Possible y2.1 y3.1 x27).bind fun y30 =>
      some (!y30)) fun v28 =>
    if v28 = true then
      some (.out (.inr false))
    else
      some (.go (IntKind.i64.wrap (s26 + 1)))
  else
    some (.out (.inl ()))
noncomputable def law33_StepsChoices (a0 : List Int) : Option (Bool) :=
  if (decide (300 < ((a0).length : Int))) = true then
    (law33_awake).bind fun y1 =>
    some y1
  else
  (make_Fleet (⟨a0, 0⟩ : make_Tape) 4).bind fun y2 =>
  (make_State y2.2 y2.1).bind fun y3 =>
  (steps_Choices y2.1 y3.1).bind fun y4 =>
  (iter (law33_StepsChoices_l0 y4 y2 y3) 0).bind fun q32 =>
  match q32 with
  | .inl v5 =>
    (make_Step y3.2 y2.1).bind fun y6 =>
    (steps_Choices y2.1 y3.1).bind fun y7 =>
    (iter (law33_StepsChoices_l1 y7 y6) (false, 0)).bind fun v8 =>
    (steps_Safe y2.1 y3.1 y6.1).bind fun y9 =>
    if (v8 != y9) = true then
      some false
    else
    (make_Steps y6.2 y2.1 y3.1 8).bind fun y10 =>
    (steps_Run y2.1 y3.1 y10.1).bind fun y11 =>
    if (y11.2 != 0) = true then
      Option.bind (
        if (y11.2 == 37) = true then
          (law33_awake).bind fun y13 =>
          some y13
        else
          some false) fun v12 =>
      some v12
    else
    (make_Tape_Next y10.2 (IntKind.i64.wrap (((y10.1).length : Int) + 1))).bind fun y14 =>
    (ck (0 ≤ 0 ∧ 0 ≤ y14.1 ∧ y14.1 ≤ ((y10.1).length : Int))).bind fun _ =>
    (steps_Run y2.1 y3.1 ((y10.1).take (Int.toNat y14.1))).bind fun y15 =>
    (some ((y15.2 != 0) || ((((y15.1).length : Int) != y14.1) || (((y11.1).length : Int) != ((y10.1).length : Int))))).bind fun v16 =>
    if v16 = true then
      some false
    else
    if (decide (0 < y14.1)) = true then
      (idx y15.1 (IntKind.i64.wrap (y14.1 - 1))).bind fun x22 =>
      law33_StepsChoices_j2 y14 y10 y2 y15 y11 (x22.Known, x22.Valid, x22.Units)
    else
      law33_StepsChoices_j2 y14 y10 y2 y15 y11 (y3.1.Known, y3.1.Valid, y3.1.Units)
  | .inr r31 =>
    some r31
noncomputable def ref33_safe_l1 (y1 : (List Int)) (x5 : Int) (s7 : Bool × Int) : Option (Lp (Bool × Int) Bool) :=
  if (decide (s7.2 < ((y1).length : Int))) = true then
    (idx y1 s7.2).bind fun x8 =>
    (some (s7.1 || (x5 == x8))).bind fun v9 =>
    some (.go (v9, IntKind.i64.wrap (s7.2 + 1)))
  else
    some (.out s7.1)
noncomputable def ref33_safe_l0 (y2 : (List Int)) (y1 : (List Int)) (s4 : Int) : Option (Lp Int (Unit ⊕ Bool)) :=
  if (decide (s4 < ((y2).length : Int))) = true then
    (idx y2 s4).bind fun x5 =>
    (iter (ref33_safe_l1 y1 x5) (false, 0)).bind fun v6 =>
    if (!v6) = true then
      some (.out (.inr false))
    else
      some (.go (IntKind.i64.wrap (s4 + 1)))
  else
    some (.out (.inl ()))
noncomputable def ref33_safe (a0 : api_Fleet) (a1 : api_Rotation) (a2 : api_Rotation) : Option (Bool) :=
  (ref32_Served a0 a2).bind fun y1 =>
  (ref32_Served a0 a1).bind fun y2 =>
  (iter (ref33_safe_l0 y2 y1) 0).bind fun q11 =>
  match q11 with
  | .inl v3 =>
    some true
  | .inr r10 =>
    some r10
noncomputable def ref33_Safe (a0 : api_Fleet) (a1 : api_Rotation) (a2 : api_Step) : Option (Bool) :=
  (ref33_Apply a0 a1 a2).bind fun y1 =>
  Option.bind (
    if (y1.2 == 0) = true then
      (ref33_safe a0 a1 y1.1).bind fun y3 =>
      some y3
    else
      some false) fun v2 =>
  some v2
noncomputable def ref33_Choices_l1 (a0 : api_Fleet) (a1 : api_Rotation) (s2 : Int × (List api_Step)) (s4 : Int × (List api_Step)) : Option (Lp (Int × (List api_Step)) (List api_Step)) :=
  if (decide (s4.1 < ((a0.Consumers).length : Int))) = true then
    (ref33_Safe a0 a1 (⟨s2.1, s4.1⟩ : api_Step)).bind fun y5 =>
    if y5 = true then
      (ck ((s4.2).length + ([(⟨s2.1, s4.1⟩ : api_Step)]).length ≤ 268435456)).bind fun _ =>
      some (.go (IntKind.i64.wrap (s4.1 + 1), (s4.2 ++ [(⟨s2.1, s4.1⟩ : api_Step)])))
    else
      some (.go (IntKind.i64.wrap (s4.1 + 1), s4.2))
  else
    some (.out s4.2)
noncomputable def ref33_Choices_l0 (a0 : api_Fleet) (a1 : api_Rotation) (s2 : Int × (List api_Step)) : Option (Lp (Int × (List api_Step)) (List api_Step)) :=
  if (decide (s2.1 ≤ 8)) = true then
    (iter (ref33_Choices_l1 a0 a1 s2) (0, s2.2)).bind fun v3 =>
    some (.go (IntKind.i64.wrap (s2.1 + 1), v3))
  else
    some (.out s2.2)
noncomputable def ref33_Choices (a0 : api_Fleet) (a1 : api_Rotation) : Option ((List api_Step)) :=
  (iter (ref33_Choices_l0 a0 a1) (1, [])).bind fun v1 =>
  some v1
noncomputable def make_SafeSteps_l0 (a3 : Int) (a1 : api_Fleet) (s2 : Int × (List Int) × Int × Int × Int × (List api_Unit) × (List api_Step)) : Option (Lp (Int × (List Int) × Int × Int × Int × (List api_Unit) × (List api_Step)) (((List Int) × Int × (List api_Step)) ⊕ ((List api_Step) × make_Tape))) :=
  if (decide (s2.1 < a3)) = true then
    (ref33_Choices a1 (⟨s2.2.2.2.1, s2.2.2.2.2.1, s2.2.2.2.2.2.1⟩ : api_Rotation)).bind fun y3 =>
    if (((y3).length : Int) == 0) = true then
      some (.out (.inr (s2.2.2.2.2.2.2, (⟨s2.2.1, s2.2.2.1⟩ : make_Tape))))
    else
    (make_Tape_Next (⟨s2.2.1, s2.2.2.1⟩ : make_Tape) ((y3).length : Int)).bind fun y4 =>
    (idx y3 y4.1).bind fun x5 =>
    (ref33_Apply a1 (⟨s2.2.2.2.1, s2.2.2.2.2.1, s2.2.2.2.2.2.1⟩ : api_Rotation) x5).bind fun y6 =>
    (ck ((s2.2.2.2.2.2.2).length + ([x5]).length ≤ 268435456)).bind fun _ =>
    some (.go (IntKind.i64.wrap (s2.1 + 1), y4.2.L, y4.2.at_, y6.1.Known, y6.1.Valid, y6.1.Units, (s2.2.2.2.2.2.2 ++ [x5])))
  else
    some (.out (.inl (s2.2.1, s2.2.2.1, s2.2.2.2.2.2.2)))
noncomputable def make_SafeSteps (a0 : make_Tape) (a1 : api_Fleet) (a2 : api_Rotation) (a3 : Int) : Option ((List api_Step) × make_Tape) :=
  (iter (make_SafeSteps_l0 a3 a1) (0, a0.L, a0.at_, a2.Known, a2.Valid, a2.Units, [])).bind fun q8 =>
  match q8 with
  | .inl v1 =>
    some (v1.2.2, (⟨v1.1, v1.2.1⟩ : make_Tape))
  | .inr r7 =>
    some r7
noncomputable def steps_Fault_l0 (a2 : List api_Step) (a0 : api_Fleet) (s3 : Int × Int × Int × (List api_Unit)) : Option (Lp (Int × Int × Int × (List api_Unit)) (Unit ⊕ (Int × Int))) :=
  if (decide (s3.1 < ((a2).length : Int))) = true then
    (idx a2 s3.1).bind fun x4 =>
    (steps_Apply a0 (⟨s3.2.1, s3.2.2.1, s3.2.2.2⟩ : api_Rotation) x4).bind fun y5 =>
    if (y5.2 != 0) = true then
      some (.out (.inr (s3.1, y5.2)))
    else
    (steps_holds a0 (⟨s3.2.1, s3.2.2.1, s3.2.2.2⟩ : api_Rotation) y5.1).bind fun y6 =>
    if (!y6) = true then
      some (.out (.inr (s3.1, 38)))
    else
      some (.go (IntKind.i64.wrap (s3.1 + 1), y5.1.Known, y5.1.Valid, y5.1.Units))
  else
    some (.out (.inl ()))
noncomputable def steps_Fault (a0 : api_Fleet) (a1 : api_Rotation) (a2 : List api_Step) : Option (Int × Int) :=
  (steps_check a0 a1 a2).bind fun y1 =>
  if (y1 != 0) = true then
    some (0, y1)
  else
  (iter (steps_Fault_l0 a2 a0) (0, a1.Known, a1.Valid, a1.Units)).bind fun q8 =>
  match q8 with
  | .inl v2 =>
    some (((a2).length : Int), 0)
  | .inr r7 =>
    some r7
noncomputable def law33_StepsServe_l1 (y8 : (List Int)) (y13 : (List Int)) (s15 : Int) : Option (Lp Int (Unit ⊕ Bool)) :=
  if (decide (s15 < ((y8).length : Int))) = true then
    (idx y8 s15).bind fun x16 =>
    (ref23_Has y13 x16).bind fun y17 =>
    if (!y17) = true then
      some (.out (.inr false))
    else
      some (.go (IntKind.i64.wrap (s15 + 1)))
  else
    some (.out (.inl ()))
noncomputable def law33_StepsServe_l0 (y6 : (List api_Rotation) × Int) (y2 : api_Fleet × make_Tape) (y8 : (List Int)) (s11 : Int) : Option (Lp Int (Unit ⊕ Bool)) :=
  if (decide (s11 < ((y6.1).length : Int))) = true then
    (idx y6.1 s11).bind fun x12 =>
    (ref32_Served y2.1 x12).bind fun y13 =>
    (iter (law33_StepsServe_l1 y8 y13) 0).bind fun q19 =>
    match q19 with
    | .inl v14 =>
      some (.go (IntKind.i64.wrap (s11 + 1)))
    | .inr r18 =>
      some (.out (.inr r18))
  else
    some (.out (.inl ()))
noncomputable def law33_StepsServe (a0 : List Int) : Option (Bool) :=
  if (decide (300 < ((a0).length : Int))) = true then
    (law33_awake).bind fun y1 =>
    some y1
  else
  (make_Fleet (⟨a0, 0⟩ : make_Tape) 4).bind fun y2 =>
  (make_State y2.2 y2.1).bind fun y3 =>
  (make_SafeSteps y3.2 y2.1 y3.1 8).bind fun y4 =>
  (steps_Fault y2.1 y3.1 y4.1).bind fun y5 =>
  (steps_Run y2.1 y3.1 y4.1).bind fun y6 =>
  (some ((y5.2 != 0) || ((y6.2 != 0) || ((y5.1 != ((y4.1).length : Int)) || (((y6.1).length : Int) != ((y4.1).length : Int)))))).bind fun v7 =>
  if v7 = true then
    some false
  else
  (ref32_Served y2.1 y3.1).bind fun y8 =>
  (iter (law33_StepsServe_l0 y6 y2 y8) 0).bind fun q21 =>
  match q21 with
  | .inl v9 =>
    (law33_awake).bind fun y10 =>
    some y10
  | .inr r20 =>
    some r20
noncomputable def ref33_Possible (a0 : api_Fleet) (a1 : api_Rotation) (a2 : api_Step) : Option (Bool) :=
  (ref33_Apply a0 a1 a2).bind fun y1 =>
  some (y1.2 == 0)
noncomputable def ref33_Same_l0 (a0 : List api_Step) (a1 : List api_Step) (s2 : Int) : Option (Lp Int (Unit ⊕ Bool)) :=
  if (decide (s2 < ((a0).length : Int))) = true then
    (idx a0 s2).bind fun x3 =>
    (idx a1 s2).bind fun x4 =>
    if (!((x3.Kind == x4.Kind) && (x3.Unit == x4.Unit))) = true then
      some (.out (.inr false))
    else
      some (.go (IntKind.i64.wrap (s2 + 1)))
  else
    some (.out (.inl ()))
noncomputable def ref33_Same (a0 : List api_Step) (a1 : List api_Step) : Option (Bool) :=
  if (((a0).length : Int) != ((a1).length : Int)) = true then
    some false
  else
  (iter (ref33_Same_l0 a0 a1) 0).bind fun q6 =>
  match q6 with
  | .inl v1 =>
    some true
  | .inr r5 =>
    some r5
noncomputable def ref33_Run_l0 (a2 : List api_Step) (a0 : api_Fleet) (s3 : Int × Int × Int × (List api_Unit) × (List api_Rotation)) : Option (Lp (Int × Int × Int × (List api_Unit) × (List api_Rotation)) ((List api_Rotation) ⊕ ((List api_Rotation) × Int))) :=
  if (decide (s3.1 < ((a2).length : Int))) = true then
    (idx a2 s3.1).bind fun x4 =>
    (ref33_Apply a0 (⟨s3.2.1, s3.2.2.1, s3.2.2.2.1⟩ : api_Rotation) x4).bind fun y5 =>
    if (y5.2 != 0) = true then
      some (.out (.inr ([], y5.2)))
    else
    (ck ((s3.2.2.2.2).length + ([y5.1]).length ≤ 268435456)).bind fun _ =>
    some (.go (IntKind.i64.wrap (s3.1 + 1), y5.1.Known, y5.1.Valid, y5.1.Units, (s3.2.2.2.2 ++ [y5.1])))
  else
    some (.out (.inl s3.2.2.2.2))
noncomputable def ref33_Run (a0 : api_Fleet) (a1 : api_Rotation) (a2 : List api_Step) : Option ((List api_Rotation) × Int) :=
  (ref32_Right a0 a1).bind fun y1 =>
  if (!y1) = true then
    some ([], 36)
  else
  if (decide (120 < ((a2).length : Int))) = true then
    some ([], 3)
  else
  (iter (ref33_Run_l0 a2 a0) (0, a1.Known, a1.Valid, a1.Units, [])).bind fun q7 =>
  match q7 with
  | .inl v2 =>
    some (v2, 0)
  | .inr r6 =>
    some r6
noncomputable def ref33_Fault_l0 (a2 : List api_Step) (a0 : api_Fleet) (s3 : Int × Int × Int × (List api_Unit)) : Option (Lp (Int × Int × Int × (List api_Unit)) (Unit ⊕ (Int × Int))) :=
  if (decide (s3.1 < ((a2).length : Int))) = true then
    (idx a2 s3.1).bind fun x4 =>
    (ref33_Apply a0 (⟨s3.2.1, s3.2.2.1, s3.2.2.2⟩ : api_Rotation) x4).bind fun y5 =>
    if (y5.2 != 0) = true then
      some (.out (.inr (s3.1, y5.2)))
    else
    (ref33_safe a0 (⟨s3.2.1, s3.2.2.1, s3.2.2.2⟩ : api_Rotation) y5.1).bind fun y6 =>
    if (!y6) = true then
      some (.out (.inr (s3.1, 38)))
    else
      some (.go (IntKind.i64.wrap (s3.1 + 1), y5.1.Known, y5.1.Valid, y5.1.Units))
  else
    some (.out (.inl ()))
noncomputable def ref33_Fault (a0 : api_Fleet) (a1 : api_Rotation) (a2 : List api_Step) : Option (Int × Int) :=
  (ref32_Right a0 a1).bind fun y1 =>
  if (!y1) = true then
    some (0, 36)
  else
  if (decide (120 < ((a2).length : Int))) = true then
    some (0, 3)
  else
  (iter (ref33_Fault_l0 a2 a0) (0, a1.Known, a1.Valid, a1.Units)).bind fun q8 =>
  match q8 with
  | .inl v2 =>
    some (((a2).length : Int), 0)
  | .inr r7 =>
    some r7
noncomputable def law33_StepsExact_l3 (l20 : List (List api_Step)) (x10 : api_Fleet) (x14 : api_Rotation) (s22 : Int) : Option (Lp Int (Unit ⊕ Bool)) :=
  if (decide (s22 < 3)) = true then
    (ck (s22 < 3)).bind fun _ =>
    (idx l20 s22).bind fun x23 =>
    (steps_Run x10 x14 x23).bind fun y24 =>
    (ref33_Run x10 x14 x23).bind fun y25 =>
    (steps_Fault x10 x14 x23).bind fun y26 =>
    (ref33_Fault x10 x14 x23).bind fun y27 =>
    Option.bind (
      if (y24.2 != y25.2) = true then
        some true
      else
      (ref32_All y24.1 y25.1).bind fun y29 =>
      if (!y29) = true then
        some true
      else
      if (y26.1 != y27.1) = true then
        some true
      else
        some (y26.2 != y27.2)) fun v28 =>
    if v28 = true then
      some (.out (.inr false))
    else
      some (.go (IntKind.i64.wrap (s22 + 1)))
  else
    some (.out (.inl ()))
noncomputable def law33_StepsExact_l4 (l38 : List api_Step) (x10 : api_Fleet) (x14 : api_Rotation) (s40 : Int) : Option (Lp Int (Unit ⊕ Bool)) :=
  if (decide (s40 < 2)) = true then
    (ck (s40 < 2)).bind fun _ =>
    (idx l38 s40).bind fun x41 =>
    (steps_Apply x10 x14 x41).bind fun y42 =>
    (ref33_Apply x10 x14 x41).bind fun y43 =>
    Option.bind (
      if (y42.2 != y43.2) = true then
        some true
      else
      (ref32_Same y42.1 y43.1).bind fun y45 =>
      if (!y45) = true then
        some true
      else
      (steps_Possible x10 x14 x41).bind fun y46 =>
      (ref33_Possible x10 x14 x41).bind fun y47 =>
      if (y46 != y47) = true then
        some true
      else
      (steps_Safe x10 x14 x41).bind fun y48 =>
      (ref33_Safe x10 x14 x41).bind fun y49 =>
      some (y48 != y49)) fun v44 =>
    if v44 = true then
      some (.out (.inr false))
    else
      some (.go (IntKind.i64.wrap (s40 + 1)))
  else
    some (.out (.inl ()))
noncomputable def law33_StepsExact_l2 (x10 : api_Fleet) (x14 : api_Rotation) (s36 : Int × (List Int) × Int) : Option (Lp (Int × (List Int) × Int) (((List Int) × Int) ⊕ Bool)) :=
  if (decide (s36.1 ≤ 9)) = true then
    (make_Tape_Between (⟨s36.2.1, s36.2.2⟩ : make_Tape) (-1) 4).bind fun y37 =>
    (some [(⟨s36.1, y37.1⟩ : api_Step), (⟨s36.1, 0⟩ : api_Step)]).bind fun l38 =>
    (iter (law33_StepsExact_l4 l38 x10 x14) 0).bind fun q51 =>
    match q51 with
    | .inl v39 =>
      some (.go (IntKind.i64.wrap (s36.1 + 1), y37.2.L, y37.2.at_))
    | .inr r50 =>
      some (.out (.inr r50))
  else
    some (.out (.inl (s36.2.1, s36.2.2)))
noncomputable def law33_StepsExact_l1 (l11 : List api_Rotation) (x10 : api_Fleet) (a3 : api_Step) (y5 : (List api_Step) × make_Tape) (a4 : List api_Step) (s13 : Int × (List Int) × Int) : Option (Lp (Int × (List Int) × Int) (((List Int) × Int) ⊕ Bool)) :=
  if (decide (s13.1 < 2)) = true then
    (ck (s13.1 < 2)).bind fun _ =>
    (idx l11 s13.1).bind fun x14 =>
    (iter (law33_StepsExact_l2 x10 x14) (0, s13.2.1, s13.2.2)).bind fun q53 =>
    match q53 with
    | .inl v15 =>
      (steps_Apply x10 x14 a3).bind fun y16 =>
      (ref33_Apply x10 x14 a3).bind fun y17 =>
      Option.bind (
        if (y16.2 != y17.2) = true then
          some true
        else
        (ref32_Same y16.1 y17.1).bind fun y32 =>
        if (!y32) = true then
          some true
        else
        (steps_Choices x10 x14).bind fun y33 =>
        (ref33_Choices x10 x14).bind fun y34 =>
        (ref33_Same y33 y34).bind fun y35 =>
        some (!y35)) fun v18 =>
      if v18 = true then
        some (.out (.inr false))
      else
      (make_SafeSteps (⟨v15.1, v15.2⟩ : make_Tape) x10 x14 4).bind fun y19 =>
      (some [y5.1, a4, y19.1]).bind fun l20 =>
      (iter (law33_StepsExact_l3 l20 x10 x14) 0).bind fun q31 =>
      match q31 with
      | .inl v21 =>
        some (.go (IntKind.i64.wrap (s13.1 + 1), y19.2.L, y19.2.at_))
      | .inr r30 =>
        some (.out (.inr r30))
    | .inr r52 =>
      some (.out (.inr r52))
  else
    some (.out (.inl (s13.2.1, s13.2.2)))
noncomputable def law33_StepsExact_l0 (l6 : List api_Fleet) (y4 : api_Rotation × make_Tape) (a2 : api_Rotation) (a3 : api_Step) (y5 : (List api_Step) × make_Tape) (a4 : List api_Step) (s9 : Int × (List Int) × Int) : Option (Lp (Int × (List Int) × Int) (Unit ⊕ Bool)) :=
  if (decide (s9.1 < 2)) = true then
    (ck (s9.1 < 2)).bind fun _ =>
    (idx l6 s9.1).bind fun x10 =>
    (some [y4.1, a2]).bind fun l11 =>
    (iter (law33_StepsExact_l1 l11 x10 a3 y5 a4) (0, s9.2.1, s9.2.2)).bind fun q55 =>
    match q55 with
    | .inl v12 =>
      some (.go (IntKind.i64.wrap (s9.1 + 1), v12.1, v12.2))
    | .inr r54 =>
      some (.out (.inr r54))
  else
    some (.out (.inl ()))
noncomputable def law33_StepsExact (a0 : List Int) (a1 : api_Fleet) (a2 : api_Rotation) (a3 : api_Step) (a4 : List api_Step) : Option (Bool) :=
  (some ((decide (300 < ((a0).length : Int))) || ((decide (10 < ((a1.Consumers).length : Int))) || ((decide (10 < ((a2.Units).length : Int))) || (decide (30 < ((a4).length : Int))))))).bind fun v1 =>
  if v1 = true then
    (law33_awake).bind fun y2 =>
    some y2
  else
  (make_Fleet (⟨a0, 0⟩ : make_Tape) 4).bind fun y3 =>
  (make_State y3.2 y3.1).bind fun y4 =>
  (make_Steps y4.2 y3.1 y4.1 10).bind fun y5 =>
  (some [y3.1, a1]).bind fun l6 =>
  (iter (law33_StepsExact_l0 l6 y4 a2 a3 y5 a4) (0, y5.2.L, y5.2.at_)).bind fun q57 =>
  match q57 with
  | .inl v7 =>
    (law33_awake).bind fun y8 =>
    some y8
  | .inr r56 =>
    some r56
noncomputable def runner_outcome (a0 : Int) : Option (Bool) :=
  (some ((decide (0 ≤ a0)) && (decide (a0 ≤ 4)))).bind fun v1 =>
  some v1
noncomputable def runner_check_1 (a0 : Int) : Option (Bool) :=
  (runner_outcome a0).bind fun y1 =>
  some (!y1)
noncomputable def slices_IndexFunc_int_at_runner_check_1_l0 (a0 : List Int) (s2 : Int) : Option (Lp Int (Unit ⊕ Int)) :=
  if (decide (s2 < ((a0).length : Int))) = true then
    (idx a0 s2).bind fun x3 =>
    (runner_check_1 x3).bind fun y4 =>
    if y4 = true then
      some (.out (.inr s2))
    else
      some (.go (IntKind.i64.wrap (s2 + 1)))
  else
    some (.out (.inl ()))
noncomputable def slices_IndexFunc_int_at_runner_check_1 (a0 : List Int) : Option (Int) :=
  (iter (slices_IndexFunc_int_at_runner_check_1_l0 a0) 0).bind fun q6 =>
  match q6 with
  | .inl v1 =>
    some (-1)
  | .inr r5 =>
    some r5
noncomputable def slices_ContainsFunc_int_at_runner_check_1 (a0 : List Int) : Option (Bool) :=
  (slices_IndexFunc_int_at_runner_check_1 a0).bind fun y1 =>
  some (decide (0 ≤ y1))
noncomputable def runner_check (a0 : api_Fleet) (a1 : api_Rotation) (a2 : List api_Step) (a3 : List Int) : Option (Int) :=
  (fleet_Right a0 a1).bind fun y1 =>
  if (!y1) = true then
    some 36
  else
  if (decide (120 < ((a2).length : Int))) = true then
    some 3
  else
  (slices_ContainsFunc_int_at_runner_check_1 a3).bind fun y2 =>
  if y2 = true then
    some 2
  else
    some 0
noncomputable def runner_runner_next (a0 : runner_runner) : Option (Int × runner_runner) :=
  if (decide (((a0.tried).length : Int) < ((a0.outcomes).length : Int))) = true then
    (idx a0.outcomes ((a0.tried).length : Int)).bind fun x1 =>
    some (x1, a0)
  else
    some (0, a0)
noncomputable def runner_there (a0 : Int) : Option (Bool) :=
  (some ((a0 != 1) && (a0 != 4))).bind fun v1 =>
  some v1
noncomputable def runner_runner_look_o0_6_7 (a0 : runner_runner) (a1 : api_Rotation) : Option (runner_runner) :=
  (fleet_Copy a1).bind fun y1 =>
  (ck ((a0.states).length + ([y1]).length ≤ 268435456)).bind fun _ =>
  some (⟨a0.fleet, a0.state, a0.outcomes, a0.tried, (a0.states ++ [y1])⟩ : runner_runner)
noncomputable def runner_runner_next_o0_6_7 (a0 : runner_runner) : Option (Int × runner_runner) :=
  if (decide (((a0.tried).length : Int) < ((a0.outcomes).length : Int))) = true then
    (idx a0.outcomes ((a0.tried).length : Int)).bind fun x1 =>
    some (x1, a0)
  else
    some (0, a0)
noncomputable def runner_runner_step_o0_6_7_j1 (y4 : Int × runner_runner) (y1 : api_Rotation × Int) (s3 : Int × Int × (List api_Consumer) × Int × Int × (List api_Unit) × (List Int) × (List api_Attempt) × (List api_Rotation)) (v6 : Int × (List api_Consumer) × Int × Int × (List api_Unit) × (List Int) × (List api_Rotation) × (List api_Attempt)) : Option (Lp (Int × Int × (List api_Consumer) × Int × Int × (List api_Unit) × (List Int) × (List api_Attempt) × (List api_Rotation)) ((Int × (List api_Consumer) × Int × Int × (List api_Unit) × (List Int) × (List api_Attempt) × (List api_Rotation)) ⊕ (Int × runner_runner))) :=
  (runner_there y4.1).bind fun y7 =>
  if y7 = true then
    (runner_runner_look_o0_6_7 (⟨(⟨v6.1, v6.2.1⟩ : api_Fleet), y1.1, v6.2.2.2.2.2.1, v6.2.2.2.2.2.2.2, v6.2.2.2.2.2.2.1⟩ : runner_runner) y1.1).bind fun y8 =>
    some (.out (.inr (0, y8)))
  else
  (runner_runner_look_o0_6_7 (⟨(⟨v6.1, v6.2.1⟩ : api_Fleet), (⟨v6.2.2.1, v6.2.2.2.1, v6.2.2.2.2.1⟩ : api_Rotation), v6.2.2.2.2.2.1, v6.2.2.2.2.2.2.2, v6.2.2.2.2.2.2.1⟩ : runner_runner) (⟨v6.2.2.1, v6.2.2.2.1, v6.2.2.2.2.1⟩ : api_Rotation)).bind fun y9 =>
  some (.go (IntKind.i64.wrap (s3.1 + 1), y9.fleet.Slots, y9.fleet.Consumers, y9.state.Known, y9.state.Valid, y9.state.Units, y9.outcomes, y9.tried, y9.states))
noncomputable def runner_runner_step_o0_6_7_l0 (a1 : api_Step) (y1 : api_Rotation × Int) (s3 : Int × Int × (List api_Consumer) × Int × Int × (List api_Unit) × (List Int) × (List api_Attempt) × (List api_Rotation)) : Option (Lp (Int × Int × (List api_Consumer) × Int × Int × (List api_Unit) × (List Int) × (List api_Attempt) × (List api_Rotation)) ((Int × (List api_Consumer) × Int × Int × (List api_Unit) × (List Int) × (List api_Attempt) × (List api_Rotation)) ⊕ (Int × runner_runner))) :=
  if (decide (s3.1 < 6)) = true then
    (runner_runner_next_o0_6_7 (⟨(⟨s3.2.1, s3.2.2.1⟩ : api_Fleet), (⟨s3.2.2.2.1, s3.2.2.2.2.1, s3.2.2.2.2.2.1⟩ : api_Rotation), s3.2.2.2.2.2.2.1, s3.2.2.2.2.2.2.2.1, s3.2.2.2.2.2.2.2.2⟩ : runner_runner)).bind fun y4 =>
    (runner_there y4.1).bind fun y5 =>
    (ck ((y4.2.tried).length + ([(⟨a1, y4.1, y5⟩ : api_Attempt)]).length ≤ 268435456)).bind fun _ =>
    if (y4.1 == 4) = true then
      (runner_runner_look_o0_6_7 (⟨y4.2.fleet, y4.2.state, y4.2.outcomes, (y4.2.tried ++ [(⟨a1, y4.1, y5⟩ : api_Attempt)]), y4.2.states⟩ : runner_runner) y1.1).bind fun y10 =>
      runner_runner_step_o0_6_7_j1 y4 y1 s3 (y10.fleet.Slots, y10.fleet.Consumers, y10.state.Known, y10.state.Valid, y10.state.Units, y10.outcomes, y10.states, y10.tried)
    else
      runner_runner_step_o0_6_7_j1 y4 y1 s3 (y4.2.fleet.Slots, y4.2.fleet.Consumers, y4.2.state.Known, y4.2.state.Valid, y4.2.state.Units, y4.2.outcomes, y4.2.states, (y4.2.tried ++ [(⟨a1, y4.1, y5⟩ : api_Attempt)]))
  else
    some (.out (.inl (s3.2.1, s3.2.2.1, s3.2.2.2.1, s3.2.2.2.2.1, s3.2.2.2.2.2.1, s3.2.2.2.2.2.2.1, s3.2.2.2.2.2.2.2.1, s3.2.2.2.2.2.2.2.2)))
noncomputable def runner_runner_step_o0_6_7 (a0 : runner_runner) (a1 : api_Step) : Option (Int × runner_runner) :=
  (steps_Apply a0.fleet a0.state a1).bind fun y1 =>
  if (y1.2 != 0) = true then
    some (y1.2, a0)
  else
  (iter (runner_runner_step_o0_6_7_l0 a1 y1) (0, a0.fleet.Slots, a0.fleet.Consumers, a0.state.Known, a0.state.Valid, a0.state.Units, a0.outcomes, a0.tried, a0.states)).bind fun q12 =>
  match q12 with
  | .inl v2 =>
    some (40, (⟨(⟨v2.1, v2.2.1⟩ : api_Fleet), (⟨v2.2.2.1, v2.2.2.2.1, v2.2.2.2.2.1⟩ : api_Rotation), v2.2.2.2.2.2.1, v2.2.2.2.2.2.2.1, v2.2.2.2.2.2.2.2⟩ : runner_runner))
  | .inr r11 =>
    some r11
noncomputable def runner_run_l0 (a2 : List api_Step) (s5 : Int × Int × (List api_Consumer) × Int × Int × (List api_Unit) × (List Int) × (List api_Attempt) × (List api_Rotation)) : Option (Lp (Int × Int × (List api_Consumer) × Int × Int × (List api_Unit) × (List Int) × (List api_Attempt) × (List api_Rotation)) ((Int × (List api_Consumer) × Int × Int × (List api_Unit) × (List Int) × (List api_Attempt) × (List api_Rotation)) ⊕ ((Option runner_runner) × Int))) :=
  if (decide (s5.1 < ((a2).length : Int))) = true then
    (idx a2 s5.1).bind fun x6 =>
    (runner_runner_step_o0_6_7 (⟨(⟨s5.2.1, s5.2.2.1⟩ : api_Fleet), (⟨s5.2.2.2.1, s5.2.2.2.2.1, s5.2.2.2.2.2.1⟩ : api_Rotation), s5.2.2.2.2.2.2.1, s5.2.2.2.2.2.2.2.1, s5.2.2.2.2.2.2.2.2⟩ : runner_runner) x6).bind fun y7 =>
    if (y7.1 != 0) = true then
      some (.out (.inr ((some y7.2), y7.1)))
    else
      some (.go (IntKind.i64.wrap (s5.1 + 1), y7.2.fleet.Slots, y7.2.fleet.Consumers, y7.2.state.Known, y7.2.state.Valid, y7.2.state.Units, y7.2.outcomes, y7.2.tried, y7.2.states))
  else
    some (.out (.inl (s5.2.1, s5.2.2.1, s5.2.2.2.1, s5.2.2.2.2.1, s5.2.2.2.2.2.1, s5.2.2.2.2.2.2.1, s5.2.2.2.2.2.2.2.1, s5.2.2.2.2.2.2.2.2)))
noncomputable def runner_run (a0 : api_Fleet) (a1 : api_Rotation) (a2 : List api_Step) (a3 : List Int) : Option ((Option runner_runner) × Int) :=
  (runner_check a0 a1 a2 a3).bind fun y1 =>
  if (y1 != 0) = true then
    some (none, y1)
  else
  (fleet_Copy a1).bind fun y2 =>
  (runner_runner_look_o0_6_7 (⟨a0, y2, a3, [], []⟩ : runner_runner) a1).bind fun y3 =>
  (iter (runner_run_l0 a2) (0, y3.fleet.Slots, y3.fleet.Consumers, y3.state.Known, y3.state.Valid, y3.state.Units, y3.outcomes, y3.tried, y3.states)).bind fun q9 =>
  match q9 with
  | .inl v4 =>
    some ((some (⟨(⟨v4.1, v4.2.1⟩ : api_Fleet), (⟨v4.2.2.1, v4.2.2.2.1, v4.2.2.2.2.1⟩ : api_Rotation), v4.2.2.2.2.2.1, v4.2.2.2.2.2.2.1, v4.2.2.2.2.2.2.2⟩ : runner_runner)), 0)
  | .inr r8 =>
    some r8
noncomputable def runner_Run (a0 : api_Fleet) (a1 : api_Rotation) (a2 : List api_Step) (a3 : List Int) : Option (api_Rotation × (List api_Attempt) × Int) :=
  (runner_run a0 a1 a2 a3).bind fun y1 =>
  match y1.1 with
  | none =>
    some ((⟨0, 0, []⟩ : api_Rotation), [], y1.2)
  | some x2 =>
    some (x2.state, x2.tried, y1.2)
noncomputable def law37_awake  : Option (Bool) :=
  (ref32_Start (⟨1, [(⟨0, false, false⟩ : api_Consumer)]⟩ : api_Fleet)).bind fun y1 =>
  (runner_Run (⟨1, [(⟨0, false, false⟩ : api_Consumer)]⟩ : api_Fleet) y1.1 [(⟨1, 0⟩ : api_Step)] [1, 2]).bind fun y2 =>
  Option.bind (
    if (y2.2.2 == 0) = true then
      if (y2.1.Known == 3) = true then
        if (((y2.2.1).length : Int) == 2) = true then
          (idx y2.2.1 0).bind fun x4 =>
          if (!x4.There) = true then
            (idx y2.2.1 1).bind fun x5 =>
            some x5.There
          else
            some false
        else
          some false
      else
        some false
    else
      some false) fun v3 =>
  some v3
noncomputable def make_Pick (a0 : make_Tape) (a1 : List Int) : Option (Int × make_Tape) :=
  (make_Tape_Next a0 ((a1).length : Int)).bind fun y1 =>
  (idx a1 y1.1).bind fun x2 =>
  some (x2, y1.2)
noncomputable def make_Outcomes_l0  (s3 : Int × (List Int) × Int × (List Int)) : Option (Lp (Int × (List Int) × Int × (List Int)) ((List Int) × Int × (List Int))) :=
  if (decide (0 < s3.1)) = true then
    (make_Pick (⟨s3.2.1, s3.2.2.1⟩ : make_Tape) [0, 0, 1, 2, 3, 4, 0]).bind fun y4 =>
    (ck ((s3.2.2.2).length + ([y4.1]).length ≤ 268435456)).bind fun _ =>
    some (.go (IntKind.i64.wrap (s3.1 - 1), y4.2.L, y4.2.at_, (s3.2.2.2 ++ [y4.1])))
  else
    some (.out (s3.2.1, s3.2.2.1, s3.2.2.2))
noncomputable def make_Outcomes (a0 : make_Tape) (a1 : Int) : Option ((List Int) × make_Tape) :=
  (make_Tape_Next a0 (IntKind.i64.wrap (a1 + 1))).bind fun y1 =>
  (iter (make_Outcomes_l0) (y1.1, y1.2.L, y1.2.at_, [])).bind fun v2 =>
  some (v2.2.2, (⟨v2.1, v2.2.1⟩ : make_Tape))
noncomputable def law37_RunnerTries_l0 (y6 : api_Rotation × (List api_Attempt) × Int) (y4 : (List api_Step) × make_Tape) (s12 : Int × Int × Int) : Option (Lp (Int × Int × Int) ((Int × Int) ⊕ Bool)) :=
  if (decide (s12.2.2 < ((y6.2.1).length : Int))) = true then
    (idx y6.2.1 s12.2.2).bind fun x13 =>
    Option.bind (
      if (decide (((y4.1).length : Int) ≤ s12.1)) = true then
        some true
      else
      (idx y4.1 s12.1).bind fun x15 =>
      some (!((x13.Step.Kind == x15.Kind) && (x13.Step.Unit == x15.Unit)))) fun v14 =>
    if v14 = true then
      some (.out (.inr false))
    else
    if (decide (6 < (IntKind.i64.wrap (s12.2.1 + 1)))) = true then
      some (.out (.inr false))
    else
    if x13.There = true then
      some (.go (IntKind.i64.wrap (s12.1 + 1), 0, IntKind.i64.wrap (s12.2.2 + 1)))
    else
      some (.go (s12.1, IntKind.i64.wrap (s12.2.1 + 1), IntKind.i64.wrap (s12.2.2 + 1)))
  else
    some (.out (.inl (s12.1, s12.2.1)))
noncomputable def law37_RunnerTries (a0 : List Int) : Option (Bool) :=
  if (decide (300 < ((a0).length : Int))) = true then
    (law37_awake).bind fun y1 =>
    some y1
  else
  (make_Fleet (⟨a0, 0⟩ : make_Tape) 4).bind fun y2 =>
  (make_State y2.2 y2.1).bind fun y3 =>
  (make_SafeSteps y3.2 y2.1 y3.1 6).bind fun y4 =>
  (make_Outcomes y4.2 30).bind fun y5 =>
  (runner_Run y2.1 y3.1 y4.1 y5.1).bind fun y6 =>
  (iter (law37_RunnerTries_l0 y6 y4) (0, 0, 0)).bind fun q17 =>
  match q17 with
  | .inl v7 =>
    (some (bif (y6.2.2 == 0) then ((v7.1 != ((y4.1).length : Int)) || ((v7.2 != 0) || (bif (y6.2.2 == 40) then ((v7.2 != 6) || ((y6.2.2 != 0) && (y6.2.2 != 40))) else ((y6.2.2 != 0) && (y6.2.2 != 40))))) else (bif (y6.2.2 == 40) then ((v7.2 != 6) || ((y6.2.2 != 0) && (y6.2.2 != 40))) else ((y6.2.2 != 0) && (y6.2.2 != 40))))).bind fun v8 =>
    if v8 = true then
      some false
    else
    (runner_Run y2.1 y3.1 y4.1 []).bind fun y9 =>
    Option.bind (
      if (y9.2.2 == 0) = true then
        if (((y9.2.1).length : Int) == ((y4.1).length : Int)) = true then
          (law37_awake).bind fun y11 =>
          some y11
        else
          some false
      else
        some false) fun v10 =>
    some v10
  | .inr r16 =>
    some r16
noncomputable def runner_States (a0 : api_Fleet) (a1 : api_Rotation) (a2 : List api_Step) (a3 : List Int) : Option ((List api_Rotation) × Int) :=
  (runner_run a0 a1 a2 a3).bind fun y1 =>
  match y1.1 with
  | none =>
    some ([], y1.2)
  | some x2 =>
    some (x2.states, y1.2)
noncomputable def law37_RunnerEnds_l1 (l11 : List api_Rotation) (x20 : api_Rotation) (s25 : Bool × Int) : Option (Lp (Bool × Int) Bool) :=
  if (decide (s25.2 < ((l11).length : Int))) = true then
    (ck (0 ≤ s25.2 ∧ (Int.toNat s25.2) < (l11).length)).bind fun _ =>
    (idx l11 s25.2).bind fun x26 =>
    Option.bind (
      if s25.1 = true then
        some true
      else
      (ref32_Same x20 x26).bind fun y28 =>
      some y28) fun v27 =>
    some (.go (v27, IntKind.i64.wrap (s25.2 + 1)))
  else
    some (.out s25.1)
noncomputable def law37_RunnerEnds_l0 (y7 : (List api_Rotation) × Int) (l11 : List api_Rotation) (y2 : api_Fleet × make_Tape) (y3 : api_Rotation × make_Tape) (s19 : Int) : Option (Lp Int (Unit ⊕ Bool)) :=
  if (decide (s19 < ((y7.1).length : Int))) = true then
    (idx y7.1 s19).bind fun x20 =>
    (iter (law37_RunnerEnds_l1 l11 x20) (false, 0)).bind fun v21 =>
    Option.bind (
      if (!v21) = true then
        some true
      else
      (ref32_Served y2.1 x20).bind fun y23 =>
      (ref32_Served y2.1 y3.1).bind fun y24 =>
      some (decide (((y23).length : Int) < ((y24).length : Int)))) fun v22 =>
    if v22 = true then
      some (.out (.inr false))
    else
      some (.go (IntKind.i64.wrap (s19 + 1)))
  else
    some (.out (.inl ()))
noncomputable def law37_RunnerEnds (a0 : List Int) : Option (Bool) :=
  if (decide (300 < ((a0).length : Int))) = true then
    (law37_awake).bind fun y1 =>
    some y1
  else
  (make_Fleet (⟨a0, 0⟩ : make_Tape) 4).bind fun y2 =>
  (make_State y2.2 y2.1).bind fun y3 =>
  (make_SafeSteps y3.2 y2.1 y3.1 6).bind fun y4 =>
  (make_Outcomes y4.2 24).bind fun y5 =>
  (runner_Run y2.1 y3.1 y4.1 y5.1).bind fun y6 =>
  (runner_States y2.1 y3.1 y4.1 y5.1).bind fun y7 =>
  (ref33_Run y2.1 y3.1 y4.1).bind fun y8 =>
  (some ((y8.2 != 0) || ((y6.2.2 != y7.2) || (bif (y6.2.2 != 0) then ((y6.2.2 != 40) || ((((y7.1).length : Int) == 0) || ((decide (((y6.2.1).length : Int) < ((y4.1).length : Int))) && (y6.2.2 == 0)))) else ((((y7.1).length : Int) == 0) || ((decide (((y6.2.1).length : Int) < ((y4.1).length : Int))) && (y6.2.2 == 0))))))).bind fun v9 =>
  if v9 = true then
    some false
  else
  (ck (([y3.1]).length + (y8.1).length ≤ 268435456)).bind fun _ =>
  Option.bind (
    if (y6.2.2 == 0) = true then
      (ck (0 ≤ IntKind.i64.wrap (((([y3.1] ++ y8.1)).length : Int) - 1) ∧ (Int.toNat (IntKind.i64.wrap (((([y3.1] ++ y8.1)).length : Int) - 1))) < (([y3.1] ++ y8.1)).length)).bind fun _ =>
      (idx ([y3.1] ++ y8.1) (IntKind.i64.wrap (((([y3.1] ++ y8.1)).length : Int) - 1))).bind fun x31 =>
      (ref32_Same y6.1 x31).bind fun y32 =>
      some (!y32)
    else
      some false) fun v10 =>
  if v10 = true then
    some false
  else
  (some (([y3.1] ++ y8.1) : List api_Rotation)).bind fun l11 =>
  (iter (law37_RunnerEnds_l0 y7 l11 y2 y3) 0).bind fun q30 =>
  match q30 with
  | .inl v12 =>
    Option.bind (
      (idx y7.1 0).bind fun x14 =>
      (ref32_Same x14 y3.1).bind fun y15 =>
      if y15 = true then
        (idx y7.1 (IntKind.i64.wrap (((y7.1).length : Int) - 1))).bind fun x16 =>
        (ref32_Same x16 y6.1).bind fun y17 =>
        if y17 = true then
          (law37_awake).bind fun y18 =>
          some y18
        else
          some false
      else
        some false) fun v13 =>
    some v13
  | .inr r29 =>
    some r29
noncomputable def law37_RunnerMute_l0 (y4 : (List api_Step) × make_Tape) (s13 : Int × (List Int) × Int × (List Int)) : Option (Lp (Int × (List Int) × Int × (List Int)) (List Int)) :=
  if (decide (s13.1 < ((y4.1).length : Int))) = true then
    (make_Pick (⟨s13.2.1, s13.2.2.1⟩ : make_Tape) [0, 2, 3]).bind fun y14 =>
    (ck ((s13.2.2.2).length + ([y14.1]).length ≤ 268435456)).bind fun _ =>
    some (.go (IntKind.i64.wrap (s13.1 + 1), y14.2.L, y14.2.at_, (s13.2.2.2 ++ [y14.1])))
  else
    some (.out s13.2.2.2)
noncomputable def law37_RunnerMute (a0 : List Int) : Option (Bool) :=
  if (decide (300 < ((a0).length : Int))) = true then
    (law37_awake).bind fun y1 =>
    some y1
  else
  (make_Fleet (⟨a0, 0⟩ : make_Tape) 4).bind fun y2 =>
  (make_State y2.2 y2.1).bind fun y3 =>
  (make_SafeSteps y3.2 y2.1 y3.1 6).bind fun y4 =>
  (iter (law37_RunnerMute_l0 y4) (0, y4.2.L, y4.2.at_, [])).bind fun v5 =>
  (runner_States y2.1 y3.1 y4.1 []).bind fun y6 =>
  (runner_States y2.1 y3.1 y4.1 v5).bind fun y7 =>
  (ref33_Run y2.1 y3.1 y4.1).bind fun y8 =>
  Option.bind (
    if (y6.2 != 0) = true then
      some true
    else
    if (y7.2 != 0) = true then
      some true
    else
    if (y8.2 != 0) = true then
      some true
    else
    (ref32_All y6.1 y7.1).bind fun y11 =>
    if (!y11) = true then
      some true
    else
    (ck (([y3.1]).length + (y8.1).length ≤ 268435456)).bind fun _ =>
    (ref32_All y6.1 ([y3.1] ++ y8.1)).bind fun y12 =>
    some (!y12)) fun v9 =>
  if v9 = true then
    some false
  else
  (law37_awake).bind fun y10 =>
  some y10
noncomputable def slices_Clone_api_Step (a0 : List api_Step) : Option (List api_Step) :=
  (ck ((a0).length ≤ 268435456)).bind fun _ =>
  some a0
noncomputable def runner_Left_l1 (a1 : List api_Attempt) (a0 : List api_Step) (s4 : Int × Int) : Option (Lp (Int × Int) (Int ⊕ ((List api_Step) × Int))) :=
  if (decide (s4.2 < ((a1).length : Int))) = true then
    (idx a1 s4.2).bind fun x5 =>
    Option.bind (
      if (decide (((a0).length : Int) ≤ s4.1)) = true then
        some true
      else
      (idx a0 s4.1).bind fun x7 =>
      some (!((x5.Step.Kind == x7.Kind) && (x5.Step.Unit == x7.Unit)))) fun v6 =>
    if v6 = true then
      some (.out (.inr ([], 41)))
    else
    if x5.There = true then
      some (.go (IntKind.i64.wrap (s4.1 + 1), IntKind.i64.wrap (s4.2 + 1)))
    else
      some (.go (s4.1, IntKind.i64.wrap (s4.2 + 1)))
  else
    some (.out (.inl s4.1))
noncomputable def runner_Left_l0 (a1 : List api_Attempt) (s10 : Int) : Option (Lp Int (Unit ⊕ ((List api_Step) × Int))) :=
  if (decide (s10 < ((a1).length : Int))) = true then
    (idx a1 s10).bind fun x11 =>
    Option.bind (
      (runner_outcome x11.Outcome).bind fun y13 =>
      if (!y13) = true then
        some true
      else
      (runner_there x11.Outcome).bind fun y14 =>
      some (x11.There != y14)) fun v12 =>
    if v12 = true then
      some (.out (.inr ([], 2)))
    else
      some (.go (IntKind.i64.wrap (s10 + 1)))
  else
    some (.out (.inl ()))
noncomputable def runner_Left (a0 : List api_Step) (a1 : List api_Attempt) : Option ((List api_Step) × Int) :=
  (iter (runner_Left_l0 a1) 0).bind fun q16 =>
  match q16 with
  | .inl v1 =>
    (iter (runner_Left_l1 a1 a0) (0, 0)).bind fun q9 =>
    match q9 with
    | .inl v2 =>
      (ck (0 ≤ v2 ∧ v2 ≤ ((a0).length : Int) ∧ ((a0).length : Int) ≤ ((a0).length : Int))).bind fun _ =>
      (slices_Clone_api_Step ((a0).drop (Int.toNat v2))).bind fun y3 =>
      some (y3, 0)
    | .inr r8 =>
      some r8
  | .inr r15 =>
    some r15
noncomputable def law37_RunnerLeft_j2 (y11 : api_Rotation × (List api_Attempt) × Int) (v14 : Int × Int × (List api_Unit)) : Option Bool :=
  Option.bind (
    (ref32_Same y11.1 (⟨v14.1, v14.2.1, v14.2.2⟩ : api_Rotation)).bind fun y16 =>
    if y16 = true then
      (law37_awake).bind fun y17 =>
      some y17
    else
      some false) fun v15 =>
  some v15
noncomputable def law37_RunnerLeft_l1  (s19 : Int × (List Int) × Int × (List Int)) : Option (Lp (Int × (List Int) × Int × (List Int)) (List Int)) :=
  if (decide (s19.1 < 6)) = true then
    (make_Pick (⟨s19.2.1, s19.2.2.1⟩ : make_Tape) [1, 4]).bind fun y20 =>
    (ck ((s19.2.2.2).length + ([y20.1]).length ≤ 268435456)).bind fun _ =>
    some (.go (IntKind.i64.wrap (s19.1 + 1), y20.2.L, y20.2.at_, (s19.2.2.2 ++ [y20.1])))
  else
    some (.out s19.2.2.2)
noncomputable def law37_RunnerLeft_l0  (s21 : Int × (List Int) × Int × (List Int)) : Option (Lp (Int × (List Int) × Int × (List Int)) ((List Int) × Int × (List Int))) :=
  if (decide (0 < s21.1)) = true then
    (make_Pick (⟨s21.2.1, s21.2.2.1⟩ : make_Tape) [0, 2, 3]).bind fun y22 =>
    (ck ((s21.2.2.2).length + ([y22.1]).length ≤ 268435456)).bind fun _ =>
    some (.go (IntKind.i64.wrap (s21.1 - 1), y22.2.L, y22.2.at_, (s21.2.2.2 ++ [y22.1])))
  else
    some (.out (s21.2.1, s21.2.2.1, s21.2.2.2))
noncomputable def law37_RunnerLeft (a0 : List Int) : Option (Bool) :=
  if (decide (300 < ((a0).length : Int))) = true then
    (law37_awake).bind fun y1 =>
    some y1
  else
  (make_Fleet (⟨a0, 0⟩ : make_Tape) 4).bind fun y2 =>
  (make_State y2.2 y2.1).bind fun y3 =>
  (make_SafeSteps y3.2 y2.1 y3.1 6).bind fun y4 =>
  (make_Tape_Next y4.2 (IntKind.i64.wrap (((y4.1).length : Int) + 1))).bind fun y5 =>
  (iter (law37_RunnerLeft_l0) (y5.1, y5.2.L, y5.2.at_, [])).bind fun v6 =>
  (iter (law37_RunnerLeft_l1) (0, v6.1, v6.2.1, v6.2.2)).bind fun v7 =>
  (runner_Run y2.1 y3.1 y4.1 v7).bind fun y8 =>
  (runner_Left y4.1 y8.2.1).bind fun y9 =>
  (some ((y9.2 != 0) || (bif (y8.2.2 != 0) then ((y8.2.2 != 40) || ((y8.2.2 == 0) != (((y9.1).length : Int) == 0))) else ((y8.2.2 == 0) != (((y9.1).length : Int) == 0))))).bind fun v10 =>
  if v10 = true then
    some false
  else
  (runner_Run y2.1 y8.1 y9.1 []).bind fun y11 =>
  (ref33_Run y2.1 y3.1 y4.1).bind fun y12 =>
  (some ((y11.2.2 != 0) || (y12.2 != 0))).bind fun v13 =>
  if v13 = true then
    some false
  else
  if (decide (0 < ((y12.1).length : Int))) = true then
    (idx y12.1 (IntKind.i64.wrap (((y12.1).length : Int) - 1))).bind fun x18 =>
    law37_RunnerLeft_j2 y11 (x18.Known, x18.Valid, x18.Units)
  else
    law37_RunnerLeft_j2 y11 (y3.1.Known, y3.1.Valid, y3.1.Units)
noncomputable def ref37_right (a0 : Int) : Option (Bool) :=
  (some ((decide (0 ≤ a0)) && (decide (a0 ≤ 4)))).bind fun v1 =>
  some v1
noncomputable def ref37_there (a0 : Int) : Option (Bool) :=
  (some ((a0 == 0) || ((a0 == 2) || (a0 == 3)))).bind fun v1 =>
  some v1
noncomputable def ref37_run_j4 (y12 : Bool) (s5 : Int × Int × Int × Int × (List api_Unit) × (List api_Rotation) × (List api_Attempt)) (s9 : Int × Bool × Int × (List api_Rotation) × (List api_Attempt)) (x6 : api_Step) (v11 : Int) (v13 : (List api_Rotation)) : Option (Lp (Int × Bool × Int × (List api_Rotation) × (List api_Attempt)) (Int × Bool × (List api_Rotation) × (List api_Attempt))) :=
  if (!y12) = true then
    (ck ((v13).length + ([(⟨s5.2.2.1, s5.2.2.2.1, s5.2.2.2.2.1⟩ : api_Rotation)]).length ≤ 268435456)).bind fun _ =>
    some (.go (IntKind.i64.wrap (s9.1 + 1), y12, IntKind.i64.wrap (s9.2.2.1 + 1), (v13 ++ [(⟨s5.2.2.1, s5.2.2.2.1, s5.2.2.2.2.1⟩ : api_Rotation)]), (s9.2.2.2.2 ++ [(⟨x6, v11, y12⟩ : api_Attempt)])))
  else
    some (.go (IntKind.i64.wrap (s9.1 + 1), y12, IntKind.i64.wrap (s9.2.2.1 + 1), v13, (s9.2.2.2.2 ++ [(⟨x6, v11, y12⟩ : api_Attempt)])))
noncomputable def ref37_run_j3 (s9 : Int × Bool × Int × (List api_Rotation) × (List api_Attempt)) (x6 : api_Step) (y7 : api_Rotation × Int) (s5 : Int × Int × Int × Int × (List api_Unit) × (List api_Rotation) × (List api_Attempt)) (v11 : Int) : Option (Lp (Int × Bool × Int × (List api_Rotation) × (List api_Attempt)) (Int × Bool × (List api_Rotation) × (List api_Attempt))) :=
  (ref37_there v11).bind fun y12 =>
  (ck ((s9.2.2.2.2).length + ([(⟨x6, v11, y12⟩ : api_Attempt)]).length ≤ 268435456)).bind fun _ =>
  if (v11 != 1) = true then
    (ck ((s9.2.2.2.1).length + ([y7.1]).length ≤ 268435456)).bind fun _ =>
    ref37_run_j4 y12 s5 s9 x6 v11 (s9.2.2.2.1 ++ [y7.1])
  else
    ref37_run_j4 y12 s5 s9 x6 v11 s9.2.2.2.1
noncomputable def ref37_run_l2 (a3 : List Int) (x6 : api_Step) (y7 : api_Rotation × Int) (s5 : Int × Int × Int × Int × (List api_Unit) × (List api_Rotation) × (List api_Attempt)) (s9 : Int × Bool × Int × (List api_Rotation) × (List api_Attempt)) : Option (Lp (Int × Bool × Int × (List api_Rotation) × (List api_Attempt)) (Int × Bool × (List api_Rotation) × (List api_Attempt))) :=
  (some ((decide (s9.2.2.1 < 6)) && (!s9.2.1))).bind fun v10 =>
  if v10 = true then
    if (decide (s9.1 < ((a3).length : Int))) = true then
      (idx a3 s9.1).bind fun x14 =>
      ref37_run_j3 s9 x6 y7 s5 x14
    else
      ref37_run_j3 s9 x6 y7 s5 0
  else
    some (.out (s9.1, s9.2.1, s9.2.2.2.1, s9.2.2.2.2))
noncomputable def ref37_run_l1 (a2 : List api_Step) (a0 : api_Fleet) (a3 : List Int) (s5 : Int × Int × Int × Int × (List api_Unit) × (List api_Rotation) × (List api_Attempt)) : Option (Lp (Int × Int × Int × Int × (List api_Unit) × (List api_Rotation) × (List api_Attempt)) ((Int × Int × (List api_Unit) × (List api_Rotation) × (List api_Attempt)) ⊕ (api_Rotation × (List api_Attempt) × (List api_Rotation) × Int))) :=
  if (decide (s5.2.1 < ((a2).length : Int))) = true then
    (idx a2 s5.2.1).bind fun x6 =>
    (ref33_Apply a0 (⟨s5.2.2.1, s5.2.2.2.1, s5.2.2.2.2.1⟩ : api_Rotation) x6).bind fun y7 =>
    if (y7.2 != 0) = true then
      some (.out (.inr ((⟨s5.2.2.1, s5.2.2.2.1, s5.2.2.2.2.1⟩ : api_Rotation), s5.2.2.2.2.2.2, s5.2.2.2.2.2.1, y7.2)))
    else
    (iter (ref37_run_l2 a3 x6 y7 s5) (s5.1, false, 0, s5.2.2.2.2.2.1, s5.2.2.2.2.2.2)).bind fun v8 =>
    if (!v8.2.1) = true then
      some (.out (.inr ((⟨s5.2.2.1, s5.2.2.2.1, s5.2.2.2.2.1⟩ : api_Rotation), v8.2.2.2, v8.2.2.1, 40)))
    else
      some (.go (v8.1, IntKind.i64.wrap (s5.2.1 + 1), y7.1.Known, y7.1.Valid, y7.1.Units, v8.2.2.1, v8.2.2.2))
  else
    some (.out (.inl (s5.2.2.1, s5.2.2.2.1, s5.2.2.2.2.1, s5.2.2.2.2.2.1, s5.2.2.2.2.2.2)))
noncomputable def ref37_run_l0 (a3 : List Int) (s17 : Int) : Option (Lp Int (Unit ⊕ (api_Rotation × (List api_Attempt) × (List api_Rotation) × Int))) :=
  if (decide (s17 < ((a3).length : Int))) = true then
    (idx a3 s17).bind fun x18 =>
    (ref37_right x18).bind fun y19 =>
    if (!y19) = true then
      some (.out (.inr ((⟨0, 0, []⟩ : api_Rotation), [], [], 2)))
    else
      some (.go (IntKind.i64.wrap (s17 + 1)))
  else
    some (.out (.inl ()))
noncomputable def ref37_run (a0 : api_Fleet) (a1 : api_Rotation) (a2 : List api_Step) (a3 : List Int) : Option (api_Rotation × (List api_Attempt) × (List api_Rotation) × Int) :=
  (ref32_Right a0 a1).bind fun y1 =>
  if (!y1) = true then
    some ((⟨0, 0, []⟩ : api_Rotation), [], [], 36)
  else
  if (decide (120 < ((a2).length : Int))) = true then
    some ((⟨0, 0, []⟩ : api_Rotation), [], [], 3)
  else
  (iter (ref37_run_l0 a3) 0).bind fun q21 =>
  match q21 with
  | .inl v2 =>
    (some ([a1] : List api_Rotation)).bind fun l3 =>
    (iter (ref37_run_l1 a2 a0 a3) (0, 0, a1.Known, a1.Valid, a1.Units, l3, [])).bind fun q16 =>
    match q16 with
    | .inl v4 =>
      some ((⟨v4.1, v4.2.1, v4.2.2.1⟩ : api_Rotation), v4.2.2.2.2, v4.2.2.2.1, 0)
    | .inr r15 =>
      some r15
  | .inr r20 =>
    some r20
noncomputable def ref37_Run (a0 : api_Fleet) (a1 : api_Rotation) (a2 : List api_Step) (a3 : List Int) : Option (api_Rotation × (List api_Attempt) × Int) :=
  (ref37_run a0 a1 a2 a3).bind fun y1 =>
  some (y1.1, y1.2.1, y1.2.2.2)
noncomputable def ref37_States (a0 : api_Fleet) (a1 : api_Rotation) (a2 : List api_Step) (a3 : List Int) : Option ((List api_Rotation) × Int) :=
  (ref37_run a0 a1 a2 a3).bind fun y1 =>
  some (y1.2.2.1, y1.2.2.2)
noncomputable def ref37_Same_l0 (a0 : List api_Attempt) (a1 : List api_Attempt) (s2 : Int) : Option (Lp Int (Unit ⊕ Bool)) :=
  if (decide (s2 < ((a0).length : Int))) = true then
    (idx a0 s2).bind fun x3 =>
    (idx a1 s2).bind fun x4 =>
    if (!(((x3.Step.Kind == x4.Step.Kind) && (x3.Step.Unit == x4.Step.Unit)) && ((x3.Outcome == x4.Outcome) && (x3.There == x4.There)))) = true then
      some (.out (.inr false))
    else
      some (.go (IntKind.i64.wrap (s2 + 1)))
  else
    some (.out (.inl ()))
noncomputable def ref37_Same (a0 : List api_Attempt) (a1 : List api_Attempt) : Option (Bool) :=
  if (((a0).length : Int) != ((a1).length : Int)) = true then
    some false
  else
  (iter (ref37_Same_l0 a0 a1) 0).bind fun q6 =>
  match q6 with
  | .inl v1 =>
    some true
  | .inr r5 =>
    some r5
noncomputable def ref37_Left_l1 (a1 : List api_Attempt) (a0 : List api_Step) (s3 : Int × Int) : Option (Lp (Int × Int) (Int ⊕ ((List api_Step) × Int))) :=
  if (decide (s3.2 < ((a1).length : Int))) = true then
    (idx a1 s3.2).bind fun x4 =>
    Option.bind (
      if (decide (((a0).length : Int) ≤ s3.1)) = true then
        some true
      else
      (idx a0 s3.1).bind fun x6 =>
      some (!((x4.Step.Kind == x6.Kind) && (x4.Step.Unit == x6.Unit)))) fun v5 =>
    if v5 = true then
      some (.out (.inr ([], 41)))
    else
    if x4.There = true then
      some (.go (IntKind.i64.wrap (s3.1 + 1), IntKind.i64.wrap (s3.2 + 1)))
    else
      some (.go (s3.1, IntKind.i64.wrap (s3.2 + 1)))
  else
    some (.out (.inl s3.1))
noncomputable def ref37_Left_l0 (a1 : List api_Attempt) (s9 : Int) : Option (Lp Int (Unit ⊕ ((List api_Step) × Int))) :=
  if (decide (s9 < ((a1).length : Int))) = true then
    (idx a1 s9).bind fun x10 =>
    Option.bind (
      (ref37_right x10.Outcome).bind fun y12 =>
      if (!y12) = true then
        some true
      else
      (ref37_there x10.Outcome).bind fun y13 =>
      some (x10.There != y13)) fun v11 =>
    if v11 = true then
      some (.out (.inr ([], 2)))
    else
      some (.go (IntKind.i64.wrap (s9 + 1)))
  else
    some (.out (.inl ()))
noncomputable def ref37_Left (a0 : List api_Step) (a1 : List api_Attempt) : Option ((List api_Step) × Int) :=
  (iter (ref37_Left_l0 a1) 0).bind fun q15 =>
  match q15 with
  | .inl v1 =>
    (iter (ref37_Left_l1 a1 a0) (0, 0)).bind fun q8 =>
    match q8 with
    | .inl v2 =>
      (ck (0 ≤ v2 ∧ v2 ≤ ((a0).length : Int) ∧ ((a0).length : Int) ≤ ((a0).length : Int))).bind fun _ =>
      (ck ((((a0).drop (Int.toNat v2))).length ≤ 268435456)).bind fun _ =>
      some (((a0).drop (Int.toNat v2)), 0)
    | .inr r7 =>
      some r7
  | .inr r14 =>
    some r14
noncomputable def law37_RunnerExact_l4 (l28 : List (List api_Attempt)) (x16 : List api_Step) (s30 : Int) : Option (Lp Int (Unit ⊕ Bool)) :=
  if (decide (s30 < 3)) = true then
    (ck (s30 < 3)).bind fun _ =>
    (idx l28 s30).bind fun x31 =>
    (runner_Left x16 x31).bind fun y32 =>
    (ref37_Left x16 x31).bind fun y33 =>
    Option.bind (
      if (y32.2 != y33.2) = true then
        some true
      else
      (ref33_Same y32.1 y33.1).bind fun y35 =>
      some (!y35)) fun v34 =>
    if v34 = true then
      some (.out (.inr false))
    else
      some (.go (IntKind.i64.wrap (s30 + 1)))
  else
    some (.out (.inl ()))
noncomputable def law37_RunnerExact_j3 (y23 : api_Rotation × (List api_Attempt) × Int) (a5 : List api_Attempt) (x16 : List api_Step) (s20 : Int × (List Int) × Int) (v27 : (List Int) × Int × (List api_Attempt)) : Option (Lp (Int × (List Int) × Int) (((List Int) × Int) ⊕ Bool)) :=
  (some [y23.2.1, v27.2.2, a5]).bind fun l28 =>
  (iter (law37_RunnerExact_l4 l28 x16) 0).bind fun q37 =>
  match q37 with
  | .inl v29 =>
    some (.go (IntKind.i64.wrap (s20.1 + 1), v27.1, v27.2.1))
  | .inr r36 =>
    some (.out (.inr r36))
noncomputable def law37_RunnerExact_l2 (l18 : List (List Int)) (x10 : api_Fleet) (x12 : api_Rotation) (x16 : List api_Step) (a5 : List api_Attempt) (y3 : api_Fleet × make_Tape) (s20 : Int × (List Int) × Int) : Option (Lp (Int × (List Int) × Int) (((List Int) × Int) ⊕ Bool)) :=
  if (decide (s20.1 < 3)) = true then
    (ck (s20.1 < 3)).bind fun _ =>
    (idx l18 s20.1).bind fun x21 =>
    (runner_Run x10 x12 x16 x21).bind fun y22 =>
    (ref37_Run x10 x12 x16 x21).bind fun y23 =>
    (runner_States x10 x12 x16 x21).bind fun y24 =>
    (ref37_States x10 x12 x16 x21).bind fun y25 =>
    Option.bind (
      if (y22.2.2 != y23.2.2) = true then
        some true
      else
      (ref32_Same y22.1 y23.1).bind fun y45 =>
      if (!y45) = true then
        some true
      else
      (ref37_Same y22.2.1 y23.2.1).bind fun y46 =>
      if (!y46) = true then
        some true
      else
      if (y24.2 != y25.2) = true then
        some true
      else
      (ref32_All y24.1 y25.1).bind fun y47 =>
      some (!y47)) fun v26 =>
    if v26 = true then
      some (.out (.inr false))
    else
    (ck ((y23.2.1).length ≤ 268435456)).bind fun _ =>
    if (decide (0 < ((y23.2.1).length : Int))) = true then
      (make_Tape_Next (⟨s20.2.1, s20.2.2⟩ : make_Tape) ((y23.2.1).length : Int)).bind fun y38 =>
      (ck (0 ≤ y38.1 ∧ (Int.toNat y38.1) < (y23.2.1).length)).bind fun _ =>
      (make_Tape_Next y38.2 3).bind fun y39 =>
      if (y39.1 == 0) = true then
        (make_Tape_Between y39.2 (-1) 5).bind fun y40 =>
        (idx y23.2.1 y38.1).bind fun x41 =>
        law37_RunnerExact_j3 y23 a5 x16 s20 (y40.2.L, y40.2.at_, (y23.2.1.set (Int.toNat y38.1) (⟨x41.Step, y40.1, x41.There⟩ : api_Attempt)))
      else
      if (y39.1 == 1) = true then
        (idx y23.2.1 y38.1).bind fun x42 =>
        law37_RunnerExact_j3 y23 a5 x16 s20 (y39.2.L, y39.2.at_, (y23.2.1.set (Int.toNat y38.1) (⟨x42.Step, x42.Outcome, (!x42.There)⟩ : api_Attempt)))
      else
      (make_Step y39.2 y3.1).bind fun y43 =>
      (idx y23.2.1 y38.1).bind fun x44 =>
      law37_RunnerExact_j3 y23 a5 x16 s20 (y43.2.L, y43.2.at_, (y23.2.1.set (Int.toNat y38.1) (⟨y43.1, x44.Outcome, x44.There⟩ : api_Attempt)))
    else
      law37_RunnerExact_j3 y23 a5 x16 s20 (s20.2.1, s20.2.2, y23.2.1)
  else
    some (.out (.inl (s20.2.1, s20.2.2)))
noncomputable def law37_RunnerExact_l1 (l13 : List (List api_Step)) (a4 : List Int) (x10 : api_Fleet) (x12 : api_Rotation) (a5 : List api_Attempt) (y3 : api_Fleet × make_Tape) (s15 : Int × (List Int) × Int) : Option (Lp (Int × (List Int) × Int) (((List Int) × Int) ⊕ Bool)) :=
  if (decide (s15.1 < 2)) = true then
    (ck (s15.1 < 2)).bind fun _ =>
    (idx l13 s15.1).bind fun x16 =>
    (make_Outcomes (⟨s15.2.1, s15.2.2⟩ : make_Tape) 20).bind fun y17 =>
    (some [a4, y17.1, [1, 3, 1, 1, 3, 1, 3, 1]]).bind fun l18 =>
    (iter (law37_RunnerExact_l2 l18 x10 x12 x16 a5 y3) (0, y17.2.L, y17.2.at_)).bind fun q49 =>
    match q49 with
    | .inl v19 =>
      some (.go (IntKind.i64.wrap (s15.1 + 1), v19.1, v19.2))
    | .inr r48 =>
      some (.out (.inr r48))
  else
    some (.out (.inl (s15.2.1, s15.2.2)))
noncomputable def law37_RunnerExact_l0 (l6 : List api_Fleet) (y4 : api_Rotation × make_Tape) (a2 : api_Rotation) (y5 : (List api_Step) × make_Tape) (a3 : List api_Step) (a4 : List Int) (a5 : List api_Attempt) (y3 : api_Fleet × make_Tape) (s9 : Int × (List Int) × Int) : Option (Lp (Int × (List Int) × Int) (Unit ⊕ Bool)) :=
  if (decide (s9.1 < 3)) = true then
    (ck (s9.1 < 3)).bind fun _ =>
    (idx l6 s9.1).bind fun x10 =>
    (some ([y4.1, a2, a2] : List api_Rotation)).bind fun l11 =>
    (ck (s9.1 < 3)).bind fun _ =>
    (idx l11 s9.1).bind fun x12 =>
    (some [y5.1, a3]).bind fun l13 =>
    (iter (law37_RunnerExact_l1 l13 a4 x10 x12 a5 y3) (0, s9.2.1, s9.2.2)).bind fun q51 =>
    match q51 with
    | .inl v14 =>
      some (.go (IntKind.i64.wrap (s9.1 + 1), v14.1, v14.2))
    | .inr r50 =>
      some (.out (.inr r50))
  else
    some (.out (.inl ()))
noncomputable def law37_RunnerExact (a0 : List Int) (a1 : api_Fleet) (a2 : api_Rotation) (a3 : List api_Step) (a4 : List Int) (a5 : List api_Attempt) : Option (Bool) :=
  (some ((decide (300 < ((a0).length : Int))) || ((decide (10 < ((a1.Consumers).length : Int))) || ((decide (10 < ((a2.Units).length : Int))) || ((decide (20 < ((a3).length : Int))) || ((decide (60 < ((a4).length : Int))) || (decide (30 < ((a5).length : Int))))))))).bind fun v1 =>
  if v1 = true then
    (law37_awake).bind fun y2 =>
    some y2
  else
  (make_Fleet (⟨a0, 0⟩ : make_Tape) 3).bind fun y3 =>
  (make_State y3.2 y3.1).bind fun y4 =>
  (make_Steps y4.2 y3.1 y4.1 8).bind fun y5 =>
  (some [y3.1, a1, y3.1]).bind fun l6 =>
  (iter (law37_RunnerExact_l0 l6 y4 a2 y5 a3 a4 a5 y3) (0, y5.2.L, y5.2.at_)).bind fun q53 =>
  match q53 with
  | .inl v7 =>
    (law37_awake).bind fun y8 =>
    some y8
  | .inr r52 =>
    some r52
end Go.Vl
