/- Plain functions that mirror functions of the given program. Conditions: none. -/
import Derived.Test.YtciimncnodejaaaDoorNs
import Derived.Test.YtciimncnodejaaaDoorNh
set_option linter.unusedSimpArgs false
set_option linter.unusedVariables false
namespace Go.Vl
open Go
noncomputable def calendar_among (a0 : Int) (a1 : Int) (a2 : Int) : Option (Bool) :=
  (some ((decide (a1 ≤ a0)) && (decide (a0 ≤ a2)))).bind fun v1 =>
  some v1
noncomputable def directory_Ascending_l0 (a0 : List Int) (s2 : Int) : Option (Lp Int (Unit ⊕ Bool)) :=
  if (decide (s2 < ((a0).length : Int))) = true then
    (idx a0 (IntKind.i64.wrap (s2 - 1))).bind fun x3 =>
    (idx a0 s2).bind fun x4 =>
    if (decide (x4 ≤ x3)) = true then
      some (.out (.inr false))
    else
      some (.go (IntKind.i64.wrap (s2 + 1)))
  else
    some (.out (.inl ()))
noncomputable def directory_Ascending (a0 : List Int) : Option (Bool) :=
  (iter (directory_Ascending_l0 a0) 1).bind fun q6 =>
  match q6 with
  | .inl v1 =>
    some true
  | .inr r5 =>
    some r5
noncomputable def calendar_Check (a0 : api_Calendar) : Option (Int) :=
  Option.bind (
    (calendar_among a0.Day 1 48).bind fun y5 =>
    if (!y5) = true then
      some true
    else
    if (decide (a0.From < 0)) = true then
      some true
    else
    if (decide (a0.To ≤ a0.From)) = true then
      some true
    else
    if (decide (a0.Day < a0.To)) = true then
      some true
    else
    (calendar_among a0.Week 0 127).bind fun y6 =>
    some (!y6)) fun v1 =>
  if v1 = true then
    some 42
  else
  Option.bind (
    if (decide (40 < ((a0.Holidays).length : Int))) = true then
      some true
    else
    (directory_Ascending a0.Holidays).bind fun y3 =>
    if (!y3) = true then
      some true
    else
    if (decide (0 < ((a0.Holidays).length : Int))) = true then
      (idx a0.Holidays 0).bind fun x4 =>
      some (decide (x4 < 0))
    else
      some false) fun v2 =>
  if v2 = true then
    some 42
  else
    some 0
noncomputable def directory_Check_1 (a0 : Int) : Option (Bool) :=
  (some ((decide (a0 < 1)) || (decide (3 < a0)))).bind fun v1 =>
  some v1
noncomputable def directory_exists (a0 : api_Directory) (a1 : Int) : Option (Bool) :=
  (some ((decide (0 ≤ a1)) && (decide (a1 < ((a0.Kinds).length : Int))))).bind fun v1 =>
  some v1
noncomputable def directory_group (a0 : api_Directory) (a1 : Int) : Option (Bool) :=
  Option.bind (
    (directory_exists a0 a1).bind fun y2 =>
    if y2 = true then
      (idx a0.Kinds a1).bind fun x3 =>
      some (x3 == 2)
    else
      some false) fun v1 =>
  some v1
noncomputable def slices_IndexFunc_int_at_directory_Check_1_l0 (a0 : List Int) (s2 : Int) : Option (Lp Int (Unit ⊕ Int)) :=
  if (decide (s2 < ((a0).length : Int))) = true then
    (idx a0 s2).bind fun x3 =>
    (directory_Check_1 x3).bind fun y4 =>
    if y4 = true then
      some (.out (.inr s2))
    else
      some (.go (IntKind.i64.wrap (s2 + 1)))
  else
    some (.out (.inl ()))
noncomputable def slices_IndexFunc_int_at_directory_Check_1 (a0 : List Int) : Option (Int) :=
  (iter (slices_IndexFunc_int_at_directory_Check_1_l0 a0) 0).bind fun q6 =>
  match q6 with
  | .inl v1 =>
    some (-1)
  | .inr r5 =>
    some r5
noncomputable def slices_ContainsFunc_int_at_directory_Check_1 (a0 : List Int) : Option (Bool) :=
  (slices_IndexFunc_int_at_directory_Check_1 a0).bind fun y1 =>
  some (decide (0 ≤ y1))
noncomputable def directory_Check_l0 (a0 : api_Directory) (s3 : Int × Int) : Option (Lp (Int × Int) (Unit ⊕ Int)) :=
  if (decide (s3.2 < ((a0.Events).length : Int))) = true then
    (idx a0.Events s3.2).bind fun x4 =>
    Option.bind (
      if (x4.Kind != 1) = true then
        if (x4.Kind != 2) = true then
          some true
        else
        if (decide (x4.Time < s3.1)) = true then
          some true
        else
        if (decide (1099511627776 < x4.Time)) = true then
          some true
        else
        (directory_exists a0 x4.Principal).bind fun y6 =>
        if (!y6) = true then
          some true
        else
        (directory_group a0 x4.Group).bind fun y7 =>
        if (!y7) = true then
          some true
        else
          some (x4.Principal == x4.Group)
      else
      if (decide (x4.Time < s3.1)) = true then
        some true
      else
      if (decide (1099511627776 < x4.Time)) = true then
        some true
      else
      (directory_exists a0 x4.Principal).bind fun y8 =>
      if (!y8) = true then
        some true
      else
      (directory_group a0 x4.Group).bind fun y9 =>
      if (!y9) = true then
        some true
      else
        some (x4.Principal == x4.Group)) fun v5 =>
    if v5 = true then
      some (.out (.inr 30))
    else
      some (.go (x4.Time, IntKind.i64.wrap (s3.2 + 1)))
  else
    some (.out (.inl ()))
noncomputable def directory_Check (a0 : api_Directory) : Option (Int) :=
  Option.bind (
    if (decide (24 < ((a0.Kinds).length : Int))) = true then
      some true
    else
    if (decide (120 < ((a0.Events).length : Int))) = true then
      some true
    else
    (slices_ContainsFunc_int_at_directory_Check_1 a0.Kinds).bind fun y12 =>
    some y12) fun v1 =>
  if v1 = true then
    some 30
  else
  (iter (directory_Check_l0 a0) (0, 0)).bind fun q11 =>
  match q11 with
  | .inl v2 =>
    some 0
  | .inr r10 =>
    some r10
noncomputable def owners_exists (a0 : api_Directory) (a1 : Int) : Option (Bool) :=
  (some ((decide (0 ≤ a1)) && (decide (a1 < ((a0.Kinds).length : Int))))).bind fun v1 =>
  some v1
noncomputable def owners_Check_l0 (a1 : List api_Steward) (a0 : api_Directory) (s3 : Int × Int) : Option (Lp (Int × Int) (Unit ⊕ Int)) :=
  if (decide (s3.2 < ((a1).length : Int))) = true then
    (idx a1 s3.2).bind fun x4 =>
    Option.bind (
      if (decide (x4.Time < s3.1)) = true then
        some true
      else
      if (decide (1099511627776 < x4.Time)) = true then
        some true
      else
      (owners_exists a0 x4.Subject).bind fun y6 =>
      if (!y6) = true then
        some true
      else
      if (x4.Steward != (-1)) = true then
        (owners_exists a0 x4.Steward).bind fun y7 =>
        if (!y7) = true then
          some true
        else
          some (x4.Steward == x4.Subject)
      else
        some false) fun v5 =>
    if v5 = true then
      some (.out (.inr 33))
    else
      some (.go (x4.Time, IntKind.i64.wrap (s3.2 + 1)))
  else
    some (.out (.inl ()))
noncomputable def owners_Check (a0 : api_Directory) (a1 : List api_Steward) : Option (Int) :=
  (directory_Check a0).bind fun y1 =>
  if (y1 != 0) = true then
    some y1
  else
  if (decide (120 < ((a1).length : Int))) = true then
    some 33
  else
  (iter (owners_Check_l0 a1 a0) (0, 0)).bind fun q9 =>
  match q9 with
  | .inl v2 =>
    some 0
  | .inr r8 =>
    some r8
noncomputable def notice_right_j0 (a2 : List (Int × Bool)) (a1 : api_Case) (v4 : Bool) : Option Bool :=
  if v4 = true then
    (some (((mget inE a2 a1.Case).getD false) && ((a1.Level == 0) && (a1.Owner == 0)))).bind fun v5 =>
    some v5
  else
    some false
noncomputable def notice_right (a0 : api_Directory) (a1 : api_Case) (a2 : List (Int × Bool)) : Option (Bool) :=
  (some ((decide (a1.Case < 0)) || (decide (16 ≤ a1.Case)))).bind fun v1 =>
  if v1 = true then
    some false
  else
  if (a1.Kind == 1) = true then
    Option.bind (
      if (!((mget inE a2 a1.Case).getD false)) = true then
        (notice_Deadline a1.Level).bind fun y3 =>
        if (decide (0 < y3)) = true then
          if (decide (0 ≤ a1.Owner)) = true then
            some (decide (a1.Owner < ((a0.Kinds).length : Int)))
          else
            some false
        else
          some false
      else
        some false) fun v2 =>
    some v2
  else
  if (a1.Kind == 2) = true then
    notice_right_j0 a2 a1 (a1.Kind == 2)
  else
    notice_right_j0 a2 a1 (a1.Kind == 3)
noncomputable def notice_Check_l0 (a1 : List api_Case) (a0 : api_Directory) (s3 : Int × Int × (List (Int × Bool))) : Option (Lp (Int × Int × (List (Int × Bool))) (Unit ⊕ Int)) :=
  if (decide (s3.2.1 < ((a1).length : Int))) = true then
    (idx a1 s3.2.1).bind fun x4 =>
    Option.bind (
      if (decide (x4.Time < s3.1)) = true then
        some true
      else
      if (decide (1099511627776 < x4.Time)) = true then
        some true
      else
      (notice_right a0 x4 s3.2.2).bind fun y6 =>
      some (!y6)) fun v5 =>
    if v5 = true then
      some (.out (.inr 43))
    else
      some (.go (x4.Time, IntKind.i64.wrap (s3.2.1 + 1), (mset inE s3.2.2 x4.Case true)))
  else
    some (.out (.inl ()))
noncomputable def notice_Check (a0 : api_Directory) (a1 : List api_Case) : Option (Int) :=
  (directory_Check a0).bind fun y1 =>
  if (y1 != 0) = true then
    some y1
  else
  if (decide (100 < ((a1).length : Int))) = true then
    some 43
  else
  (iter (notice_Check_l0 a1 a0) (0, 0, [])).bind fun q8 =>
  match q8 with
  | .inl v2 =>
    some 0
  | .inr r7 =>
    some r7
noncomputable def notice_first_l0 (a0 : List Int) (s2 : Int) : Option (Lp Int (Unit ⊕ Int)) :=
  if (decide (s2 < ((a0).length : Int))) = true then
    (idx a0 s2).bind fun x3 =>
    if (x3 != 0) = true then
      some (.out (.inr x3))
    else
      some (.go (IntKind.i64.wrap (s2 + 1)))
  else
    some (.out (.inl ()))
noncomputable def notice_first (a0 : List Int) : Option (Int) :=
  (iter (notice_first_l0 a0) 0).bind fun q5 =>
  match q5 with
  | .inl v1 =>
    some 0
  | .inr r4 =>
    some r4
noncomputable def calendar_tick (a0 : Int) : Option (Bool) :=
  (calendar_among a0 0 1099511627776).bind fun y1 =>
  some y1
noncomputable def cmp_isNaN_int (a0 : Int) : Option (Bool) :=
  some (a0 != a0)
noncomputable def cmp_Less_int (a0 : Int) (a1 : Int) : Option (Bool) :=
  Option.bind (
    (cmp_isNaN_int a0).bind fun y2 =>
    if y2 = true then
      (cmp_isNaN_int a1).bind fun y3 =>
      if (!y3) = true then
        some true
      else
        some (decide (a0 < a1))
    else
      some (decide (a0 < a1))) fun v1 =>
  some v1
noncomputable def slices_isNaN_int (a0 : Int) : Option (Bool) :=
  some (a0 != a0)
noncomputable def slices_BinarySearch_int_l0 (a0 : List Int) (a1 : Int) (s6 : Int × Int) : Option (Lp (Int × Int) Int) :=
  if (decide (s6.1 < s6.2)) = true then
    (idx a0 (IntKind.i64.wrap (((IntKind.u64.wrap (IntKind.i64.wrap (s6.1 + s6.2)))).fdiv (2 ^ (min 1 IntKind.u64.bits))))).bind fun x7 =>
    (cmp_Less_int x7 a1).bind fun y8 =>
    if y8 = true then
      some (.go (IntKind.i64.wrap ((IntKind.i64.wrap (((IntKind.u64.wrap (IntKind.i64.wrap (s6.1 + s6.2)))).fdiv (2 ^ (min 1 IntKind.u64.bits)))) + 1), s6.2))
    else
      some (.go (s6.1, IntKind.i64.wrap (((IntKind.u64.wrap (IntKind.i64.wrap (s6.1 + s6.2)))).fdiv (2 ^ (min 1 IntKind.u64.bits)))))
  else
    some (.out s6.1)
noncomputable def slices_BinarySearch_int (a0 : List Int) (a1 : Int) : Option (Int × Bool) :=
  (iter (slices_BinarySearch_int_l0 a0 a1) (0, ((a0).length : Int))).bind fun v1 =>
  Option.bind (
    if (decide (v1 < ((a0).length : Int))) = true then
      (idx a0 v1).bind fun x3 =>
      if (x3 == a1) = true then
        some true
      else
      (slices_isNaN_int x3).bind fun y4 =>
      if y4 = true then
        (slices_isNaN_int a1).bind fun y5 =>
        some y5
      else
        some false
    else
      some false) fun v2 =>
  some (v1, v2)
noncomputable def calendar_working (a0 : api_Calendar) (a1 : Int) : Option (Bool) :=
  (ck (a0.Day ≠ 0)).bind fun _ =>
  (ck (a0.Day ≠ 0)).bind fun _ =>
  (slices_BinarySearch_int a0.Holidays (IntKind.i64.wrap ((a1).tdiv a0.Day))).bind fun y1 =>
  Option.bind (
    if (decide (a0.From ≤ ((a1).tmod a0.Day))) = true then
      if (decide (((a1).tmod a0.Day) < a0.To)) = true then
        (ck (¬ (((IntKind.i64.wrap ((a1).tdiv a0.Day))).tmod 7) < 0)).bind fun _ =>
        if ((bAnd .i64 ((a0.Week).fdiv (2 ^ (min (Int.toNat (((IntKind.i64.wrap ((a1).tdiv a0.Day))).tmod 7)) IntKind.i64.bits))) 1) == 1) = true then
          some (!y1.2)
        else
          some false
      else
        some false
    else
      some false) fun v2 =>
  some v2
noncomputable def calendar_Add_l0 (a1 : Int) (a0 : api_Calendar) (s4 : Int × Int) : Option (Lp (Int × Int) (Unit ⊕ (Int × Int))) :=
  if (decide (s4.2 ≤ (if 1099511627776 < (IntKind.i64.wrap (a1 + 100000)) then 1099511627776 else (IntKind.i64.wrap (a1 + 100000))))) = true then
    if (s4.1 == 0) = true then
      some (.out (.inr (s4.2, 0)))
    else
    (calendar_working a0 s4.2).bind fun y5 =>
    if y5 = true then
      some (.go (IntKind.i64.wrap (s4.1 - 1), IntKind.i64.wrap (s4.2 + 1)))
    else
      some (.go (s4.1, IntKind.i64.wrap (s4.2 + 1)))
  else
    some (.out (.inl ()))
noncomputable def calendar_Add (a0 : api_Calendar) (a1 : Int) (a2 : Int) : Option (Int × Int) :=
  (calendar_Check a0).bind fun y1 =>
  if (y1 != 0) = true then
    some (0, 42)
  else
  Option.bind (
    (calendar_tick a1).bind fun y8 =>
    if (!y8) = true then
      some true
    else
    (calendar_among a2 0 1000).bind fun y9 =>
    some (!y9)) fun v2 =>
  if v2 = true then
    some (0, 2)
  else
  (iter (calendar_Add_l0 a1 a0) (a2, a1)).bind fun q7 =>
  match q7 with
  | .inl v3 =>
    some (0, 41)
  | .inr r6 =>
    some r6
noncomputable def notice_answered_1_cbb (a0 : api_Case) (a1 : Int) (a2 : Int) : Option (Bool × Int × Int) :=
  (some ((a0.Case == a1) && (decide (a0.Time ≤ a2)))).bind fun v1 =>
  some (v1, a1, a2)
noncomputable def slices_IndexFunc_api_Case_at_notice_answered_1_bb_l0 (a0 : List api_Case) (s2 : Int × Int × Int) : Option (Lp (Int × Int × Int) ((Int × Int) ⊕ (Int × Int × Int))) :=
  if (decide (s2.1 < ((a0).length : Int))) = true then
    (idx a0 s2.1).bind fun x3 =>
    (notice_answered_1_cbb x3 s2.2.1 s2.2.2).bind fun y4 =>
    if y4.1 = true then
      some (.out (.inr (s2.1, y4.2.1, y4.2.2)))
    else
      some (.go (IntKind.i64.wrap (s2.1 + 1), y4.2.1, y4.2.2))
  else
    some (.out (.inl (s2.2.1, s2.2.2)))
noncomputable def slices_IndexFunc_api_Case_at_notice_answered_1_bb (a0 : List api_Case) (b10 : Int) (b11 : Int) : Option (Int × Int × Int) :=
  (iter (slices_IndexFunc_api_Case_at_notice_answered_1_bb_l0 a0) (0, b10, b11)).bind fun q6 =>
  match q6 with
  | .inl v1 =>
    some ((-1), v1.1, v1.2)
  | .inr r5 =>
    some r5
noncomputable def slices_ContainsFunc_api_Case_at_notice_answered_1_bb (a0 : List api_Case) (b10 : Int) (b11 : Int) : Option (Bool × Int × Int) :=
  (slices_IndexFunc_api_Case_at_notice_answered_1_bb a0 b10 b11).bind fun y1 =>
  some ((decide (0 ≤ y1.1)), y1.2.1, y1.2.2)
noncomputable def notice_answered (a0 : List api_Case) (a1 : Int) (a2 : Int) : Option (Bool) :=
  (slices_ContainsFunc_api_Case_at_notice_answered_1_bb a0 a1 a2).bind fun y1 =>
  some y1.1
noncomputable def owners_known (a0 : api_Directory) (a1 : List api_Steward) (a2 : Int) : Option (Bool) :=
  Option.bind (
    (owners_Check a0 a1).bind fun y2 =>
    if (y2 == 0) = true then
      (owners_exists a0 a2).bind fun y3 =>
      some y3
    else
      some false) fun v1 =>
  some v1
noncomputable def slices_Index_int_l0 (a0 : List Int) (a1 : Int) (s2 : Int) : Option (Lp Int (Unit ⊕ Int)) :=
  if (decide (s2 < ((a0).length : Int))) = true then
    (idx a0 s2).bind fun x3 =>
    if (a1 == x3) = true then
      some (.out (.inr s2))
    else
      some (.go (IntKind.i64.wrap (s2 + 1)))
  else
    some (.out (.inl ()))
noncomputable def slices_Index_int (a0 : List Int) (a1 : Int) : Option (Int) :=
  (iter (slices_Index_int_l0 a0 a1) 0).bind fun q5 =>
  match q5 with
  | .inl v1 =>
    some (-1)
  | .inr r4 =>
    some r4
noncomputable def slices_Contains_int (a0 : List Int) (a1 : Int) : Option (Bool) :=
  (slices_Index_int a0 a1).bind fun y1 =>
  some (decide (0 ≤ y1))
noncomputable def owners_of_l0 (a0 : List api_Steward) (a1 : Int) (a2 : Int) (s2 : Int × Int) : Option (Lp (Int × Int) Int) :=
  if (decide (s2.2 < ((a0).length : Int))) = true then
    (idx a0 s2.2).bind fun x3 =>
    (some ((x3.Subject == a1) && (decide (x3.Time ≤ a2)))).bind fun v4 =>
    if v4 = true then
      some (.go (x3.Steward, IntKind.i64.wrap (s2.2 + 1)))
    else
      some (.go (s2.1, IntKind.i64.wrap (s2.2 + 1)))
  else
    some (.out s2.1)
noncomputable def owners_of (a0 : List api_Steward) (a1 : Int) (a2 : Int) : Option (Int) :=
  (iter (owners_of_l0 a0 a1 a2) ((-1), 0)).bind fun v1 =>
  some v1
noncomputable def owners_Way_l0 (a1 : List api_Steward) (a3 : Int) (s3 : Int × (List Int)) : Option (Lp (Int × (List Int)) (List Int)) :=
  Option.bind (
    if (s3.1 != (-1)) = true then
      (slices_Contains_int s3.2 s3.1).bind fun y6 =>
      some (!y6)
    else
      some false) fun v4 =>
  if v4 = true then
    (ck ((s3.2).length + ([s3.1]).length ≤ 268435456)).bind fun _ =>
    (owners_of a1 s3.1 a3).bind fun y5 =>
    some (.go (y5, (s3.2 ++ [s3.1])))
  else
    some (.out s3.2)
noncomputable def owners_Way (a0 : api_Directory) (a1 : List api_Steward) (a2 : Int) (a3 : Int) : Option ((List Int)) :=
  (owners_known a0 a1 a2).bind fun y1 =>
  if (!y1) = true then
    some []
  else
  (iter (owners_Way_l0 a1 a3) (a2, [])).bind fun v2 =>
  some v2
noncomputable def notice_all_l0 (x1 : api_Case) (a0 : api_Calendar) (a5 : Int) (a4 : Int) (a3 : List api_Case) (a1 : api_Directory) (a2 : List api_Steward) (s4 : Int × (List api_Notice)) : Option (Lp (Int × (List api_Notice)) ((List api_Notice) ⊕ ((List api_Notice) × Int))) :=
  if (decide (s4.1 ≤ 3)) = true then
    (ck (0 ≤ IntKind.i64.wrap (s4.1 - 1) ∧ (Int.toNat (IntKind.i64.wrap (s4.1 - 1))) < (s4.2).length)).bind fun _ =>
    (idx s4.2 (IntKind.i64.wrap (s4.1 - 1))).bind fun x5 =>
    (notice_Deadline x1.Level).bind fun y6 =>
    (calendar_Add a0 x5.Time y6).bind fun y7 =>
    if (y7.2 != 0) = true then
      some (.out (.inr ([], y7.2)))
    else
    Option.bind (
      if (decide (a5 < y7.1)) = true then
        some true
      else
      (ck (0 ≤ IntKind.i64.wrap (a4 + 1) ∧ IntKind.i64.wrap (a4 + 1) ≤ ((a3).length : Int) ∧ ((a3).length : Int) ≤ ((a3).length : Int))).bind fun _ =>
      (notice_answered ((a3).drop (Int.toNat (IntKind.i64.wrap (a4 + 1)))) x1.Case y7.1).bind fun y11 =>
      some y11) fun v8 =>
    if v8 = true then
      some (.out (.inl s4.2))
    else
    (owners_Way a1 a2 x1.Owner y7.1).bind fun y9 =>
    (idx y9 (if (IntKind.i64.wrap (((y9).length : Int) - 1)) < s4.1 then (IntKind.i64.wrap (((y9).length : Int) - 1)) else s4.1)).bind fun x10 =>
    (ck ((s4.2).length + ([(⟨y7.1, x1.Case, x10, s4.1⟩ : api_Notice)]).length ≤ 268435456)).bind fun _ =>
    some (.go (IntKind.i64.wrap (s4.1 + 1), (s4.2 ++ [(⟨y7.1, x1.Case, x10, s4.1⟩ : api_Notice)])))
  else
    some (.out (.inl s4.2))
noncomputable def notice_all (a0 : api_Calendar) (a1 : api_Directory) (a2 : List api_Steward) (a3 : List api_Case) (a4 : Int) (a5 : Int) : Option ((List api_Notice) × Int) :=
  (idx a3 a4).bind fun x1 =>
  if (decide (a5 < x1.Time)) = true then
    some ([], 0)
  else
  (some ([(⟨x1.Time, x1.Case, x1.Owner, 0⟩ : api_Notice)] : List api_Notice)).bind fun l2 =>
  (iter (notice_all_l0 x1 a0 a5 a4 a3 a1 a2) (1, l2)).bind fun q13 =>
  match q13 with
  | .inl v3 =>
    some (v3, 0)
  | .inr r12 =>
    some r12
noncomputable def slices_xorshift_Next (a0 : Int) : Option (Int × Int) :=
  some (bXor .u64 (bXor .u64 (bXor .u64 a0 (IntKind.u64.wrap (a0 * 2 ^ (min 13 IntKind.u64.bits)))) (((bXor .u64 a0 (IntKind.u64.wrap (a0 * 2 ^ (min 13 IntKind.u64.bits))))).fdiv (2 ^ (min 7 IntKind.u64.bits)))) (IntKind.u64.wrap ((bXor .u64 (bXor .u64 a0 (IntKind.u64.wrap (a0 * 2 ^ (min 13 IntKind.u64.bits)))) (((bXor .u64 a0 (IntKind.u64.wrap (a0 * 2 ^ (min 13 IntKind.u64.bits))))).fdiv (2 ^ (min 7 IntKind.u64.bits)))) * 2 ^ (min 17 IntKind.u64.bits))), bXor .u64 (bXor .u64 (bXor .u64 a0 (IntKind.u64.wrap (a0 * 2 ^ (min 13 IntKind.u64.bits)))) (((bXor .u64 a0 (IntKind.u64.wrap (a0 * 2 ^ (min 13 IntKind.u64.bits))))).fdiv (2 ^ (min 7 IntKind.u64.bits)))) (IntKind.u64.wrap ((bXor .u64 (bXor .u64 a0 (IntKind.u64.wrap (a0 * 2 ^ (min 13 IntKind.u64.bits)))) (((bXor .u64 a0 (IntKind.u64.wrap (a0 * 2 ^ (min 13 IntKind.u64.bits))))).fdiv (2 ^ (min 7 IntKind.u64.bits)))) * 2 ^ (min 17 IntKind.u64.bits))))
noncomputable def cmp_Compare_int (a0 : Int) (a1 : Int) : Option (Int) :=
  (cmp_isNaN_int a0).bind fun y1 =>
  (cmp_isNaN_int a1).bind fun y2 =>
  if y1 = true then
    if y2 = true then
      some 0
    else
      some (-1)
  else
  if y2 = true then
    some 1
  else
  if (decide (a0 < a1)) = true then
    some (-1)
  else
  if (decide (a1 < a0)) = true then
    some 1
  else
    some 0
noncomputable def cmp_Or_int_l0 (a0 : List Int) (s2 : Int) : Option (Lp Int (Unit ⊕ Int)) :=
  if (decide (s2 < ((a0).length : Int))) = true then
    (idx a0 s2).bind fun x3 =>
    if (x3 != 0) = true then
      some (.out (.inr x3))
    else
      some (.go (IntKind.i64.wrap (s2 + 1)))
  else
    some (.out (.inl ()))
noncomputable def cmp_Or_int (a0 : List Int) : Option (Int) :=
  (iter (cmp_Or_int_l0 a0) 0).bind fun q5 =>
  match q5 with
  | .inl v1 =>
    some 0
  | .inr r4 =>
    some r4
noncomputable def notice_All_1 (a0 : api_Notice) (a1 : api_Notice) : Option (Int) :=
  (cmp_Compare_int a0.Time a1.Time).bind fun y1 =>
  (cmp_Compare_int a0.Case a1.Case).bind fun y2 =>
  (cmp_Compare_int a0.Step a1.Step).bind fun y3 =>
  (cmp_Or_int [y1, y2, y3]).bind fun y4 =>
  some y4
noncomputable def notice_All_l0 (a3 : List api_Case) (a0 : api_Calendar) (a1 : api_Directory) (a2 : List api_Steward) (a4 : Int) (s8 : Int × (List api_Notice)) : Option (Lp (Int × (List api_Notice)) ((List api_Notice) ⊕ ((List api_Notice) × Int))) :=
  if (decide (s8.1 < ((a3).length : Int))) = true then
    (idx a3 s8.1).bind fun x9 =>
    if (x9.Kind != 1) = true then
      some (.go (IntKind.i64.wrap (s8.1 + 1), s8.2))
    else
    (notice_all a0 a1 a2 a3 s8.1 a4).bind fun y10 =>
    if (y10.2 != 0) = true then
      some (.out (.inr ([], y10.2)))
    else
    (ck ((s8.2).length + (y10.1).length ≤ 268435456)).bind fun _ =>
    some (.go (IntKind.i64.wrap (s8.1 + 1), (s8.2 ++ y10.1)))
  else
    some (.out (.inl s8.2))
noncomputable def notice_All (a0 : api_Calendar) (a1 : api_Directory) (a2 : List api_Steward) (a3 : List api_Case) (a4 : Int) : Option ((List api_Notice) × Int) :=
  (calendar_Check a0).bind fun y1 =>
  (owners_Check a1 a2).bind fun y2 =>
  (notice_Check a1 a3).bind fun y3 =>
  (notice_first [y1, y2, y3]).bind fun y4 =>
  if (y4 != 0) = true then
    some ([], y4)
  else
  (some ((decide (a4 < 0)) || (decide (1099511627776 < a4)))).bind fun v5 =>
  if v5 = true then
    some ([], 2)
  else
  (iter (notice_All_l0 a3 a0 a1 a2 a4) (0, [])).bind fun q12 =>
  match q12 with
  | .inl v6 =>
    (slices_SortFunc_api_Notice_vec0_at_notice_All_1 v6).bind fun y7 =>
    some (y7, 0)
  | .inr r11 =>
    some r11
noncomputable def law41_awake_l0 (y1 : (List api_Notice) × Int) (s4 : Int) : Option (Lp Int (Unit ⊕ Bool)) :=
  if (decide (s4 < ((y1.1).length : Int))) = true then
    (idx y1.1 s4).bind fun x5 =>
    if (!((x5.Time == (IntKind.i64.wrap (5 + s4))) && ((x5.Case == 0) && ((x5.To == 0) && (x5.Step == s4))))) = true then
      some (.out (.inr false))
    else
      some (.go (IntKind.i64.wrap (s4 + 1)))
  else
    some (.out (.inl ()))
noncomputable def law41_awake  : Option (Bool) :=
  (notice_All (⟨1, 0, 1, 127, []⟩ : api_Calendar) (⟨[1], []⟩ : api_Directory) [] [(⟨5, 1, 0, 4, 0⟩ : api_Case)] 50).bind fun y1 =>
  (some ((y1.2 != 0) || (((y1.1).length : Int) != 4))).bind fun v2 =>
  if v2 = true then
    some false
  else
  (iter (law41_awake_l0 y1) 0).bind fun q7 =>
  match q7 with
  | .inl v3 =>
    some true
  | .inr r6 =>
    some r6
noncomputable def make_Tape_Next (a0 : make_Tape) (a1 : Int) : Option (Int × make_Tape) :=
  if (decide (((a0.L).length : Int) ≤ a0.at_)) = true then
    some (0, a0)
  else
  (idx a0.L a0.at_).bind fun x1 =>
  (ck (a1 ≠ 0)).bind fun _ =>
  some (((bAnd .i64 x1 65535)).tmod a1, (⟨a0.L, IntKind.i64.wrap (a0.at_ + 1)⟩ : make_Tape))
noncomputable def make_Tape_Between (a0 : make_Tape) (a1 : Int) (a2 : Int) : Option (Int × make_Tape) :=
  (make_Tape_Next a0 (IntKind.i64.wrap ((IntKind.i64.wrap (a2 - a1)) + 1))).bind fun y1 =>
  some (IntKind.i64.wrap (a1 + y1.1), y1.2)
noncomputable def make_Pick (a0 : make_Tape) (a1 : List Int) : Option (Int × make_Tape) :=
  (make_Tape_Next a0 ((a1).length : Int)).bind fun y1 =>
  (idx a1 y1.1).bind fun x2 =>
  some (x2, y1.2)
noncomputable def make_Few_l0 (a1 : Int) (a2 : Int) (s2 : Int × (List Int) × Int × (List Int)) : Option (Lp (Int × (List Int) × Int × (List Int)) ((List Int) × Int × (List Int))) :=
  if (decide (s2.1 < a1)) = true then
    (make_Tape_Next (⟨s2.2.1, s2.2.2.1⟩ : make_Tape) a2).bind fun y3 =>
    if (y3.1 == (IntKind.i64.wrap (a2 - 1))) = true then
      (ck ((s2.2.2.2).length + ([s2.1]).length ≤ 268435456)).bind fun _ =>
      some (.go (IntKind.i64.wrap (s2.1 + 1), y3.2.L, y3.2.at_, (s2.2.2.2 ++ [s2.1])))
    else
      some (.go (IntKind.i64.wrap (s2.1 + 1), y3.2.L, y3.2.at_, s2.2.2.2))
  else
    some (.out (s2.2.1, s2.2.2.1, s2.2.2.2))
noncomputable def make_Few (a0 : make_Tape) (a1 : Int) (a2 : Int) : Option ((List Int) × make_Tape) :=
  (iter (make_Few_l0 a1 a2) (0, a0.L, a0.at_, [])).bind fun v1 =>
  some (v1.2.2, (⟨v1.1, v1.2.1⟩ : make_Tape))
noncomputable def make_Calendar (a0 : make_Tape) : Option (api_Calendar × make_Tape) :=
  (make_Tape_Between a0 1 12).bind fun y1 =>
  (make_Pick y1.2 [31, 127, 62, 1]).bind fun y2 =>
  (make_Tape_Next y2.2 y1.1).bind fun y3 =>
  (make_Tape_Between y3.2 (IntKind.i64.wrap (y3.1 + 1)) y1.1).bind fun y4 =>
  (make_Few y4.2 12 4).bind fun y5 =>
  some ((⟨y1.1, y3.1, y4.1, y2.1, y5.1⟩ : api_Calendar), y5.2)
noncomputable def make_Clock_l0 (a1 : Int) (s3 : Int × Int × (List Int) × Int × (List Int)) : Option (Lp (Int × Int × (List Int) × Int × (List Int)) ((List Int) × Int × (List Int))) :=
  if (decide (s3.2.1 < a1)) = true then
    (make_Tape_Next (⟨s3.2.2.1, s3.2.2.2.1⟩ : make_Tape) 3).bind fun y4 =>
    (ck ((s3.2.2.2.2).length + ([IntKind.i64.wrap (s3.1 + y4.1)]).length ≤ 268435456)).bind fun _ =>
    some (.go (IntKind.i64.wrap (s3.1 + y4.1), IntKind.i64.wrap (s3.2.1 + 1), y4.2.L, y4.2.at_, (s3.2.2.2.2 ++ [IntKind.i64.wrap (s3.1 + y4.1)])))
  else
    some (.out (s3.2.2.1, s3.2.2.2.1, s3.2.2.2.2))
noncomputable def make_Clock (a0 : make_Tape) (a1 : Int) : Option ((List Int) × make_Tape) :=
  (make_Tape_Next a0 4).bind fun y1 =>
  (iter (make_Clock_l0 a1) (y1.1, 0, y1.2.L, y1.2.at_, [])).bind fun v2 =>
  some (v2.2.2, (⟨v2.1, v2.2.1⟩ : make_Tape))
noncomputable def make_Directory_j3 (y10 : Int × make_Tape) (x12 : Int) (s8 : Int × (List Int) × Int × (List api_Member)) (x9 : Int) (v13 : (List Int) × Int × Int) : Option (Lp (Int × (List Int) × Int × (List api_Member)) ((List Int) × Int × (List api_Member))) :=
  if (y10.1 != x12) = true then
    (ck ((s8.2.2.2).length + ([(⟨x9, v13.2.2, y10.1, x12⟩ : api_Member)]).length ≤ 268435456)).bind fun _ =>
    some (.go (IntKind.i64.wrap (s8.1 + 1), v13.1, v13.2.1, (s8.2.2.2 ++ [(⟨x9, v13.2.2, y10.1, x12⟩ : api_Member)])))
  else
    some (.go (IntKind.i64.wrap (s8.1 + 1), v13.1, v13.2.1, s8.2.2.2))
noncomputable def make_Directory_l2 (y6 : (List Int) × make_Tape) (v3 : (List Int) × Int × (List Int)) (v4 : (List Int)) (s8 : Int × (List Int) × Int × (List api_Member)) : Option (Lp (Int × (List Int) × Int × (List api_Member)) ((List Int) × Int × (List api_Member))) :=
  if (decide (s8.1 < ((y6.1).length : Int))) = true then
    (idx y6.1 s8.1).bind fun x9 =>
    (make_Tape_Next (⟨s8.2.1, s8.2.2.1⟩ : make_Tape) ((v3.2.2).length : Int)).bind fun y10 =>
    (make_Tape_Next y10.2 ((v4).length : Int)).bind fun y11 =>
    (ck (0 ≤ y11.1 ∧ (Int.toNat y11.1) < (v4).length)).bind fun _ =>
    (idx v4 y11.1).bind fun x12 =>
    (make_Tape_Next y11.2 4).bind fun y14 =>
    if (y14.1 == 3) = true then
      make_Directory_j3 y10 x12 s8 x9 (y14.2.L, y14.2.at_, 2)
    else
      make_Directory_j3 y10 x12 s8 x9 (y14.2.L, y14.2.at_, 1)
  else
    some (.out (s8.2.1, s8.2.2.1, s8.2.2.2))
noncomputable def make_Directory_l1 (v3 : (List Int) × Int × (List Int)) (s15 : Int × (List Int)) : Option (Lp (Int × (List Int)) (List Int)) :=
  if (decide (s15.1 < ((v3.2.2).length : Int))) = true then
    (ck (0 ≤ s15.1 ∧ (Int.toNat s15.1) < (v3.2.2).length)).bind fun _ =>
    (idx v3.2.2 s15.1).bind fun x16 =>
    if (x16 == 2) = true then
      (ck ((s15.2).length + ([s15.1]).length ≤ 268435456)).bind fun _ =>
      some (.go (IntKind.i64.wrap (s15.1 + 1), (s15.2 ++ [s15.1])))
    else
      some (.go (IntKind.i64.wrap (s15.1 + 1), s15.2))
  else
    some (.out s15.2)
noncomputable def make_Directory_l0  (s17 : Int × (List Int) × Int × (List Int)) : Option (Lp (Int × (List Int) × Int × (List Int)) ((List Int) × Int × (List Int))) :=
  if (decide (0 < s17.1)) = true then
    (make_Pick (⟨s17.2.1, s17.2.2.1⟩ : make_Tape) [2, 2, 1, 3]).bind fun y18 =>
    (ck ((s17.2.2.2).length + ([y18.1]).length ≤ 268435456)).bind fun _ =>
    some (.go (IntKind.i64.wrap (s17.1 - 1), y18.2.L, y18.2.at_, (s17.2.2.2 ++ [y18.1])))
  else
    some (.out (s17.2.1, s17.2.2.1, s17.2.2.2))
noncomputable def make_Directory (a0 : make_Tape) : Option (api_Directory × make_Tape) :=
  (make_Tape_Between a0 2 6).bind fun y1 =>
  (some ([1] : List Int)).bind fun l2 =>
  (iter (make_Directory_l0) (y1.1, y1.2.L, y1.2.at_, l2)).bind fun v3 =>
  (iter (make_Directory_l1 v3) (0, [])).bind fun v4 =>
  if (((v4).length : Int) == 0) = true then
    some ((⟨v3.2.2, []⟩ : api_Directory), (⟨v3.1, v3.2.1⟩ : make_Tape))
  else
  (make_Tape_Next (⟨v3.1, v3.2.1⟩ : make_Tape) 12).bind fun y5 =>
  (make_Clock y5.2 y5.1).bind fun y6 =>
  (iter (make_Directory_l2 y6 v3 v4) (0, y6.2.L, y6.2.at_, [])).bind fun v7 =>
  some ((⟨v3.2.2, v7.2.2⟩ : api_Directory), (⟨v7.1, v7.2.1⟩ : make_Tape))
noncomputable def make_Stewards_l0 (y2 : (List Int) × make_Tape) (a1 : api_Directory) (s4 : Int × (List Int) × Int × (List api_Steward)) : Option (Lp (Int × (List Int) × Int × (List api_Steward)) ((List Int) × Int × (List api_Steward))) :=
  if (decide (s4.1 < ((y2.1).length : Int))) = true then
    (idx y2.1 s4.1).bind fun x5 =>
    (make_Tape_Next (⟨s4.2.1, s4.2.2.1⟩ : make_Tape) ((a1.Kinds).length : Int)).bind fun y6 =>
    (make_Tape_Between y6.2 (-1) (IntKind.i64.wrap (((a1.Kinds).length : Int) - 1))).bind fun y7 =>
    if (y6.1 != y7.1) = true then
      (ck ((s4.2.2.2).length + ([(⟨x5, y6.1, y7.1⟩ : api_Steward)]).length ≤ 268435456)).bind fun _ =>
      some (.go (IntKind.i64.wrap (s4.1 + 1), y7.2.L, y7.2.at_, (s4.2.2.2 ++ [(⟨x5, y6.1, y7.1⟩ : api_Steward)])))
    else
      some (.go (IntKind.i64.wrap (s4.1 + 1), y7.2.L, y7.2.at_, s4.2.2.2))
  else
    some (.out (s4.2.1, s4.2.2.1, s4.2.2.2))
noncomputable def make_Stewards (a0 : make_Tape) (a1 : api_Directory) : Option ((List api_Steward) × make_Tape) :=
  (make_Tape_Next a0 10).bind fun y1 =>
  (make_Clock y1.2 y1.1).bind fun y2 =>
  (iter (make_Stewards_l0 y2 a1) (0, y2.2.L, y2.2.at_, [])).bind fun v3 =>
  some (v3.2.2, (⟨v3.1, v3.2.1⟩ : make_Tape))
noncomputable def make_Cases_l1  (s5 : Int × (List api_Case)) : Option (Lp (Int × (List api_Case)) (List api_Case)) :=
  if (decide (s5.1 < ((s5.2).length : Int))) = true then
    (ck (0 ≤ s5.1 ∧ (Int.toNat s5.1) < (s5.2).length)).bind fun _ =>
    (idx s5.2 s5.1).bind fun x6 =>
    (ck (0 ≤ IntKind.i64.wrap (s5.1 - 1) ∧ (Int.toNat (IntKind.i64.wrap (s5.1 - 1))) < (s5.2).length)).bind fun _ =>
    (idx s5.2 (IntKind.i64.wrap (s5.1 - 1))).bind fun x7 =>
    (ck (0 ≤ s5.1 ∧ (Int.toNat s5.1) < (s5.2).length)).bind fun _ =>
    some (.go (IntKind.i64.wrap (s5.1 + 1), (s5.2.set (Int.toNat s5.1) (⟨(if x7.Time > x6.Time then x7.Time else x6.Time), x6.Kind, x6.Case, x6.Level, x6.Owner⟩ : api_Case))))
  else
    some (.out s5.2)
noncomputable def make_Cases_l0 (y2 : (List Int) × make_Tape) (a1 : api_Directory) (s8 : Int × (List Int) × Int × (List api_Case) × (List Int)) : Option (Lp (Int × (List Int) × Int × (List api_Case) × (List Int)) ((List Int) × Int × (List api_Case))) :=
  if (decide (s8.1 < ((y2.1).length : Int))) = true then
    (idx y2.1 s8.1).bind fun x9 =>
    Option.bind (
      if (decide (((s8.2.2.2.2).length : Int) < 3)) = true then
        if (((s8.2.2.2.2).length : Int) == 0) = true then
          some (true, s8.2.1, s8.2.2.1)
        else
        (make_Tape_Next (⟨s8.2.1, s8.2.2.1⟩ : make_Tape) 2).bind fun y22 =>
        some ((y22.1 == 0), y22.2.L, y22.2.at_)
      else
        some (false, s8.2.1, s8.2.2.1)) fun v10 =>
    if v10.1 = true then
      (make_Tape_Between (⟨v10.2.1, v10.2.2⟩ : make_Tape) 2 4).bind fun y11 =>
      (make_Tape_Next y11.2 ((a1.Kinds).length : Int)).bind fun y12 =>
      (ck ((s8.2.2.2.1).length + ([(⟨x9, 1, ((s8.2.2.2.2).length : Int), y11.1, y12.1⟩ : api_Case)]).length ≤ 268435456)).bind fun _ =>
      (ck ((s8.2.2.2.2).length + ([((s8.2.2.2.2).length : Int)]).length ≤ 268435456)).bind fun _ =>
      some (.go (IntKind.i64.wrap (s8.1 + 1), y12.2.L, y12.2.at_, (s8.2.2.2.1 ++ [(⟨x9, 1, ((s8.2.2.2.2).length : Int), y11.1, y12.1⟩ : api_Case)]), (s8.2.2.2.2 ++ [((s8.2.2.2.2).length : Int)])))
    else
    (make_Tape_Next (⟨v10.2.1, v10.2.2⟩ : make_Tape) 2).bind fun y13 =>
    (make_Tape_Between y13.2 2 3).bind fun y14 =>
    (make_Tape_Next y14.2 ((s8.2.2.2.2).length : Int)).bind fun y15 =>
    (ck (0 ≤ y15.1 ∧ (Int.toNat y15.1) < (s8.2.2.2.2).length)).bind fun _ =>
    (idx s8.2.2.2.2 y15.1).bind fun x16 =>
    (ck ((s8.2.2.2.1).length + ([(⟨IntKind.i64.wrap (x9 + y13.1), y14.1, x16, 0, 0⟩ : api_Case)]).length ≤ 268435456)).bind fun _ =>
    Option.bind (
      if (decide (1 < (((s8.2.2.2.1 ++ [(⟨IntKind.i64.wrap (x9 + y13.1), y14.1, x16, 0, 0⟩ : api_Case)])).length : Int))) = true then
        (ck (0 ≤ IntKind.i64.wrap ((((s8.2.2.2.1 ++ [(⟨IntKind.i64.wrap (x9 + y13.1), y14.1, x16, 0, 0⟩ : api_Case)])).length : Int) - 1) ∧ (Int.toNat (IntKind.i64.wrap ((((s8.2.2.2.1 ++ [(⟨IntKind.i64.wrap (x9 + y13.1), y14.1, x16, 0, 0⟩ : api_Case)])).length : Int) - 1))) < ((s8.2.2.2.1 ++ [(⟨IntKind.i64.wrap (x9 + y13.1), y14.1, x16, 0, 0⟩ : api_Case)])).length)).bind fun _ =>
        (idx (s8.2.2.2.1 ++ [(⟨IntKind.i64.wrap (x9 + y13.1), y14.1, x16, 0, 0⟩ : api_Case)]) (IntKind.i64.wrap ((((s8.2.2.2.1 ++ [(⟨IntKind.i64.wrap (x9 + y13.1), y14.1, x16, 0, 0⟩ : api_Case)])).length : Int) - 1))).bind fun x20 =>
        (ck (0 ≤ IntKind.i64.wrap ((((s8.2.2.2.1 ++ [(⟨IntKind.i64.wrap (x9 + y13.1), y14.1, x16, 0, 0⟩ : api_Case)])).length : Int) - 2) ∧ (Int.toNat (IntKind.i64.wrap ((((s8.2.2.2.1 ++ [(⟨IntKind.i64.wrap (x9 + y13.1), y14.1, x16, 0, 0⟩ : api_Case)])).length : Int) - 2))) < ((s8.2.2.2.1 ++ [(⟨IntKind.i64.wrap (x9 + y13.1), y14.1, x16, 0, 0⟩ : api_Case)])).length)).bind fun _ =>
        (idx (s8.2.2.2.1 ++ [(⟨IntKind.i64.wrap (x9 + y13.1), y14.1, x16, 0, 0⟩ : api_Case)]) (IntKind.i64.wrap ((((s8.2.2.2.1 ++ [(⟨IntKind.i64.wrap (x9 + y13.1), y14.1, x16, 0, 0⟩ : api_Case)])).length : Int) - 2))).bind fun x21 =>
        some (decide (x20.Time < x21.Time))
      else
        some false) fun v17 =>
    if v17 = true then
      (ck (0 ≤ IntKind.i64.wrap ((((s8.2.2.2.1 ++ [(⟨IntKind.i64.wrap (x9 + y13.1), y14.1, x16, 0, 0⟩ : api_Case)])).length : Int) - 2) ∧ (Int.toNat (IntKind.i64.wrap ((((s8.2.2.2.1 ++ [(⟨IntKind.i64.wrap (x9 + y13.1), y14.1, x16, 0, 0⟩ : api_Case)])).length : Int) - 2))) < ((s8.2.2.2.1 ++ [(⟨IntKind.i64.wrap (x9 + y13.1), y14.1, x16, 0, 0⟩ : api_Case)])).length)).bind fun _ =>
      (idx (s8.2.2.2.1 ++ [(⟨IntKind.i64.wrap (x9 + y13.1), y14.1, x16, 0, 0⟩ : api_Case)]) (IntKind.i64.wrap ((((s8.2.2.2.1 ++ [(⟨IntKind.i64.wrap (x9 + y13.1), y14.1, x16, 0, 0⟩ : api_Case)])).length : Int) - 2))).bind fun x18 =>
      (ck (0 ≤ IntKind.i64.wrap ((((s8.2.2.2.1 ++ [(⟨IntKind.i64.wrap (x9 + y13.1), y14.1, x16, 0, 0⟩ : api_Case)])).length : Int) - 1) ∧ (Int.toNat (IntKind.i64.wrap ((((s8.2.2.2.1 ++ [(⟨IntKind.i64.wrap (x9 + y13.1), y14.1, x16, 0, 0⟩ : api_Case)])).length : Int) - 1))) < ((s8.2.2.2.1 ++ [(⟨IntKind.i64.wrap (x9 + y13.1), y14.1, x16, 0, 0⟩ : api_Case)])).length)).bind fun _ =>
      (idx (s8.2.2.2.1 ++ [(⟨IntKind.i64.wrap (x9 + y13.1), y14.1, x16, 0, 0⟩ : api_Case)]) (IntKind.i64.wrap ((((s8.2.2.2.1 ++ [(⟨IntKind.i64.wrap (x9 + y13.1), y14.1, x16, 0, 0⟩ : api_Case)])).length : Int) - 1))).bind fun x19 =>
      some (.go (IntKind.i64.wrap (s8.1 + 1), y15.2.L, y15.2.at_, ((s8.2.2.2.1 ++ [(⟨IntKind.i64.wrap (x9 + y13.1), y14.1, x16, 0, 0⟩ : api_Case)]).set (Int.toNat (IntKind.i64.wrap ((((s8.2.2.2.1 ++ [(⟨IntKind.i64.wrap (x9 + y13.1), y14.1, x16, 0, 0⟩ : api_Case)])).length : Int) - 1))) (⟨x18.Time, x19.Kind, x19.Case, x19.Level, x19.Owner⟩ : api_Case)), s8.2.2.2.2))
    else
      some (.go (IntKind.i64.wrap (s8.1 + 1), y15.2.L, y15.2.at_, (s8.2.2.2.1 ++ [(⟨IntKind.i64.wrap (x9 + y13.1), y14.1, x16, 0, 0⟩ : api_Case)]), s8.2.2.2.2))
  else
    some (.out (s8.2.1, s8.2.2.1, s8.2.2.2.1))
noncomputable def make_Cases (a0 : make_Tape) (a1 : api_Directory) : Option ((List api_Case) × make_Tape) :=
  (make_Tape_Next a0 8).bind fun y1 =>
  (make_Clock y1.2 y1.1).bind fun y2 =>
  (iter (make_Cases_l0 y2 a1) (0, y2.2.L, y2.2.at_, [], [])).bind fun v3 =>
  (iter (make_Cases_l1) (1, v3.2.2)).bind fun v4 =>
  some (v4, (⟨v3.1, v3.2.1⟩ : make_Tape))
noncomputable def ref23_in (a0 : Int) (a1 : Int) (a2 : Int) : Option (Bool) :=
  (some ((decide (a1 ≤ a0)) && (decide (a0 ≤ a2)))).bind fun v1 =>
  some v1
noncomputable def ref23_Exists (a0 : api_Directory) (a1 : Int) : Option (Bool) :=
  (ref23_in a1 0 (IntKind.i64.wrap (((a0.Kinds).length : Int) - 1))).bind fun y1 =>
  some y1
noncomputable def ref23_Group (a0 : api_Directory) (a1 : Int) : Option (Bool) :=
  Option.bind (
    (ref23_Exists a0 a1).bind fun y2 =>
    if y2 = true then
      (idx a0.Kinds a1).bind fun x3 =>
      some (x3 == 2)
    else
      some false) fun v1 =>
  some v1
noncomputable def ref23_Valid_l1 (a0 : api_Directory) (s4 : Int) : Option (Lp Int (Unit ⊕ Bool)) :=
  if (decide (s4 < ((a0.Events).length : Int))) = true then
    (idx a0.Events s4).bind fun x5 =>
    Option.bind (
      (ref23_in x5.Kind 1 2).bind fun y7 =>
      if (!y7) = true then
        some true
      else
      (ref23_in x5.Time 0 1099511627776).bind fun y8 =>
      if (!y8) = true then
        some true
      else
      if (decide (0 < s4)) = true then
        (idx a0.Events (IntKind.i64.wrap (s4 - 1))).bind fun x9 =>
        if (decide (x5.Time < x9.Time)) = true then
          some true
        else
        (ref23_Exists a0 x5.Principal).bind fun y10 =>
        if (!y10) = true then
          some true
        else
        (ref23_Group a0 x5.Group).bind fun y11 =>
        if (!y11) = true then
          some true
        else
          some (x5.Principal == x5.Group)
      else
      (ref23_Exists a0 x5.Principal).bind fun y12 =>
      if (!y12) = true then
        some true
      else
      (ref23_Group a0 x5.Group).bind fun y13 =>
      if (!y13) = true then
        some true
      else
        some (x5.Principal == x5.Group)) fun v6 =>
    if v6 = true then
      some (.out (.inr false))
    else
      some (.go (IntKind.i64.wrap (s4 + 1)))
  else
    some (.out (.inl ()))
noncomputable def ref23_Valid_l0 (a0 : api_Directory) (s16 : Int) : Option (Lp Int (Unit ⊕ Bool)) :=
  if (decide (s16 < ((a0.Kinds).length : Int))) = true then
    (idx a0.Kinds s16).bind fun x17 =>
    (ref23_in x17 1 3).bind fun y18 =>
    if (!y18) = true then
      some (.out (.inr false))
    else
      some (.go (IntKind.i64.wrap (s16 + 1)))
  else
    some (.out (.inl ()))
noncomputable def ref23_Valid (a0 : api_Directory) : Option (Bool) :=
  (some ((decide (24 < ((a0.Kinds).length : Int))) || (decide (120 < ((a0.Events).length : Int))))).bind fun v1 =>
  if v1 = true then
    some false
  else
  (iter (ref23_Valid_l0 a0) 0).bind fun q20 =>
  match q20 with
  | .inl v2 =>
    (iter (ref23_Valid_l1 a0) 0).bind fun q15 =>
    match q15 with
    | .inl v3 =>
      some true
    | .inr r14 =>
      some r14
  | .inr r19 =>
    some r19
noncomputable def ref26_Check_l0 (a1 : List api_Steward) (a0 : api_Directory) (s3 : Int) : Option (Lp Int (Unit ⊕ Int)) :=
  if (decide (s3 < ((a1).length : Int))) = true then
    (idx a1 s3).bind fun x4 =>
    Option.bind (
      if (decide (x4.Time < 0)) = true then
        some true
      else
      if (decide (1099511627776 < x4.Time)) = true then
        some true
      else
      if (decide (0 < s3)) = true then
        (idx a1 (IntKind.i64.wrap (s3 - 1))).bind fun x6 =>
        if (decide (x4.Time < x6.Time)) = true then
          some true
        else
        (ref23_Exists a0 x4.Subject).bind fun y7 =>
        if (!y7) = true then
          some true
        else
        if (x4.Steward != (-1)) = true then
          (ref23_Exists a0 x4.Steward).bind fun y8 =>
          if (!y8) = true then
            some true
          else
            some (x4.Steward == x4.Subject)
        else
          some (x4.Steward == x4.Subject)
      else
      (ref23_Exists a0 x4.Subject).bind fun y9 =>
      if (!y9) = true then
        some true
      else
      if (x4.Steward != (-1)) = true then
        (ref23_Exists a0 x4.Steward).bind fun y10 =>
        if (!y10) = true then
          some true
        else
          some (x4.Steward == x4.Subject)
      else
        some (x4.Steward == x4.Subject)) fun v5 =>
    if v5 = true then
      some (.out (.inr 33))
    else
      some (.go (IntKind.i64.wrap (s3 + 1)))
  else
    some (.out (.inl ()))
noncomputable def ref26_Check (a0 : api_Directory) (a1 : List api_Steward) : Option (Int) :=
  (ref23_Valid a0).bind fun y1 =>
  if (!y1) = true then
    some 30
  else
  if (decide (120 < ((a1).length : Int))) = true then
    some 33
  else
  (iter (ref26_Check_l0 a1 a0) 0).bind fun q12 =>
  match q12 with
  | .inl v2 =>
    some 0
  | .inr r11 =>
    some r11
noncomputable def ref23_Has_l0 (a0 : List Int) (a1 : Int) (s2 : Int) : Option (Lp Int (Unit ⊕ Bool)) :=
  if (decide (s2 < ((a0).length : Int))) = true then
    (idx a0 s2).bind fun x3 =>
    if (x3 == a1) = true then
      some (.out (.inr true))
    else
      some (.go (IntKind.i64.wrap (s2 + 1)))
  else
    some (.out (.inl ()))
noncomputable def ref23_Has (a0 : List Int) (a1 : Int) : Option (Bool) :=
  (iter (ref23_Has_l0 a0 a1) 0).bind fun q5 =>
  match q5 with
  | .inl v1 =>
    some false
  | .inr r4 =>
    some r4
noncomputable def ref26_of_l0 (a0 : List api_Steward) (a2 : Int) (a1 : Int) (s2 : Int × Int) : Option (Lp (Int × Int) Int) :=
  if (decide (s2.2 < ((a0).length : Int))) = true then
    (idx a0 s2.2).bind fun x3 =>
    (some ((decide (x3.Time ≤ a2)) && (x3.Subject == a1))).bind fun v4 =>
    if v4 = true then
      some (.go (x3.Steward, IntKind.i64.wrap (s2.2 + 1)))
    else
      some (.go (s2.1, IntKind.i64.wrap (s2.2 + 1)))
  else
    some (.out s2.1)
noncomputable def ref26_of (a0 : List api_Steward) (a1 : Int) (a2 : Int) : Option (Int) :=
  (iter (ref26_of_l0 a0 a2 a1) ((-1), 0)).bind fun v1 =>
  some v1
noncomputable def ref26_Way_l0 (a1 : List api_Steward) (a3 : Int) (s3 : Int × (List Int)) : Option (Lp (Int × (List Int)) (List Int)) :=
  Option.bind (
    if (s3.1 != (-1)) = true then
      (ref23_Has s3.2 s3.1).bind fun y6 =>
      some (!y6)
    else
      some false) fun v4 =>
  if v4 = true then
    (ck ((s3.2).length + ([s3.1]).length ≤ 268435456)).bind fun _ =>
    (ref26_of a1 s3.1 a3).bind fun y5 =>
    some (.go (y5, (s3.2 ++ [s3.1])))
  else
    some (.out s3.2)
noncomputable def ref26_Way (a0 : api_Directory) (a1 : List api_Steward) (a2 : Int) (a3 : Int) : Option ((List Int)) :=
  Option.bind (
    (ref26_Check a0 a1).bind fun y7 =>
    if (y7 != 0) = true then
      some true
    else
    (ref23_Exists a0 a2).bind fun y8 =>
    some (!y8)) fun v1 =>
  if v1 = true then
    some []
  else
  (iter (ref26_Way_l0 a1 a3) (a2, [])).bind fun v2 =>
  some v2
noncomputable def ref40_in (a0 : Int) (a1 : Int) (a2 : Int) : Option (Bool) :=
  (some ((decide (a1 ≤ a0)) && (decide (a0 ≤ a2)))).bind fun v1 =>
  some v1
noncomputable def ref40_Valid_l0 (a0 : api_Calendar) (s3 : Int) : Option (Lp Int (Unit ⊕ Bool)) :=
  if (decide (s3 < ((a0.Holidays).length : Int))) = true then
    (idx a0.Holidays s3).bind fun x4 =>
    Option.bind (
      if (decide (x4 < 0)) = true then
        some true
      else
      if (decide (0 < s3)) = true then
        (idx a0.Holidays (IntKind.i64.wrap (s3 - 1))).bind fun x6 =>
        some (decide (x4 ≤ x6))
      else
        some false) fun v5 =>
    if v5 = true then
      some (.out (.inr false))
    else
      some (.go (IntKind.i64.wrap (s3 + 1)))
  else
    some (.out (.inl ()))
noncomputable def ref40_Valid (a0 : api_Calendar) : Option (Bool) :=
  Option.bind (
    (ref40_in a0.Day 1 48).bind fun y9 =>
    if (!y9) = true then
      some true
    else
    if (decide (a0.From < 0)) = true then
      some true
    else
    if (decide (a0.To ≤ a0.From)) = true then
      some true
    else
    if (decide (a0.Day < a0.To)) = true then
      some true
    else
    (ref40_in a0.Week 0 127).bind fun y10 =>
    if (!y10) = true then
      some true
    else
      some (decide (40 < ((a0.Holidays).length : Int)))) fun v1 =>
  if v1 = true then
    some false
  else
  (iter (ref40_Valid_l0 a0) 0).bind fun q8 =>
  match q8 with
  | .inl v2 =>
    some true
  | .inr r7 =>
    some r7
noncomputable def ref40_working_l0 (a0 : api_Calendar) (a1 : Int) (s3 : Int) : Option (Lp Int (Unit ⊕ Bool)) :=
  if (decide (s3 < ((a0.Holidays).length : Int))) = true then
    (idx a0.Holidays s3).bind fun x4 =>
    if (x4 == (IntKind.i64.wrap ((a1).tdiv a0.Day))) = true then
      some (.out (.inr false))
    else
      some (.go (IntKind.i64.wrap (s3 + 1)))
  else
    some (.out (.inl ()))
noncomputable def ref40_working (a0 : api_Calendar) (a1 : Int) : Option (Bool) :=
  (ck (a0.Day ≠ 0)).bind fun _ =>
  (ck (a0.Day ≠ 0)).bind fun _ =>
  Option.bind (
    if (decide (((a1).tmod a0.Day) < a0.From)) = true then
      some true
    else
    if (decide (a0.To ≤ ((a1).tmod a0.Day))) = true then
      some true
    else
    (ck (¬ (((IntKind.i64.wrap ((a1).tdiv a0.Day))).tmod 7) < 0)).bind fun _ =>
    some ((bAnd .i64 ((a0.Week).fdiv (2 ^ (min (Int.toNat (((IntKind.i64.wrap ((a1).tdiv a0.Day))).tmod 7)) IntKind.i64.bits))) 1) == 0)) fun v1 =>
  if v1 = true then
    some false
  else
  (iter (ref40_working_l0 a0 a1) 0).bind fun q6 =>
  match q6 with
  | .inl v2 =>
    some true
  | .inr r5 =>
    some r5
noncomputable def ref40_Add_l0 (a1 : Int) (a0 : api_Calendar) (s4 : Int × Int) : Option (Lp (Int × Int) (Int ⊕ (Int × Int))) :=
  if (decide (0 < s4.1)) = true then
    (some ((decide ((IntKind.i64.wrap (a1 + 100000)) ≤ s4.2)) || (decide (1099511627776 ≤ s4.2)))).bind fun v5 =>
    if v5 = true then
      some (.out (.inr (0, 41)))
    else
    (ref40_working a0 s4.2).bind fun y6 =>
    if y6 = true then
      some (.go (IntKind.i64.wrap (s4.1 - 1), IntKind.i64.wrap (s4.2 + 1)))
    else
      some (.go (s4.1, IntKind.i64.wrap (s4.2 + 1)))
  else
    some (.out (.inl s4.2))
noncomputable def ref40_Add (a0 : api_Calendar) (a1 : Int) (a2 : Int) : Option (Int × Int) :=
  (ref40_Valid a0).bind fun y1 =>
  if (!y1) = true then
    some (0, 42)
  else
  Option.bind (
    (ref40_in a1 0 1099511627776).bind fun y9 =>
    if (!y9) = true then
      some true
    else
    (ref40_in a2 0 1000).bind fun y10 =>
    some (!y10)) fun v2 =>
  if v2 = true then
    some (0, 2)
  else
  (iter (ref40_Add_l0 a1 a0) (a2, a1)).bind fun q8 =>
  match q8 with
  | .inl v3 =>
    some (v3, 0)
  | .inr r7 =>
    some r7
noncomputable def law41_NoticeSteps_l1 (y6 : (List api_Notice) × Int) (s10 : Int) : Option (Lp Int (Unit ⊕ Bool)) :=
  if (decide (s10 < ((y6.1).length : Int))) = true then
    (idx y6.1 s10).bind fun x11 =>
    (idx y6.1 (IntKind.i64.wrap (s10 - 1))).bind fun x12 =>
    if (decide (x11.Time < x12.Time)) = true then
      some (.out (.inr false))
    else
      some (.go (IntKind.i64.wrap (s10 + 1)))
  else
    some (.out (.inl ()))
noncomputable def law41_NoticeSteps_l2 (y6 : (List api_Notice) × Int) (x16 : api_Case) (y3 : api_Directory × make_Tape) (y4 : (List api_Steward) × make_Tape) (y2 : api_Calendar × make_Tape) (s18 : Int × Int × Int) : Option (Lp (Int × Int × Int) (Int ⊕ Bool)) :=
  if (decide (s18.2.2 < ((y6.1).length : Int))) = true then
    (idx y6.1 s18.2.2).bind fun x19 =>
    if (x19.Case != x16.Case) = true then
      some (.go (s18.1, s18.2.1, IntKind.i64.wrap (s18.2.2 + 1)))
    else
    Option.bind (
      if (x19.Step != s18.2.1) = true then
        some true
      else
      if (x19.Time != s18.1) = true then
        some true
      else
      if (decide (3 < x19.Step)) = true then
        some true
      else
      (ref26_Way y3.1 y4.1 x16.Owner s18.1).bind fun y24 =>
      (ref23_Has y24 x19.To).bind fun y25 =>
      if (!y25) = true then
        some true
      else
      if (s18.2.1 == 0) = true then
        some (x19.To != x16.Owner)
      else
        some false) fun v20 =>
    if v20 = true then
      some (.out (.inr false))
    else
    (notice_Deadline x16.Level).bind fun y21 =>
    (ref40_Add y2.1 s18.1 y21).bind fun y22 =>
    (some ((y22.2 != 0) || (decide (y22.1 ≤ s18.1)))).bind fun v23 =>
    if v23 = true then
      some (.out (.inr false))
    else
      some (.go (y22.1, IntKind.i64.wrap (s18.2.1 + 1), IntKind.i64.wrap (s18.2.2 + 1)))
  else
    some (.out (.inl s18.2.1))
noncomputable def law41_NoticeSteps_l0 (y5 : (List api_Case) × make_Tape) (y6 : (List api_Notice) × Int) (y3 : api_Directory × make_Tape) (y4 : (List api_Steward) × make_Tape) (y2 : api_Calendar × make_Tape) (s15 : Int) : Option (Lp Int (Unit ⊕ Bool)) :=
  if (decide (s15 < ((y5.1).length : Int))) = true then
    (idx y5.1 s15).bind fun x16 =>
    if (x16.Kind != 1) = true then
      some (.go (IntKind.i64.wrap (s15 + 1)))
    else
    (iter (law41_NoticeSteps_l2 y6 x16 y3 y4 y2) (x16.Time, 0, 0)).bind fun q27 =>
    match q27 with
    | .inl v17 =>
      if (v17 == 0) = true then
        some (.out (.inr false))
      else
        some (.go (IntKind.i64.wrap (s15 + 1)))
    | .inr r26 =>
      some (.out (.inr r26))
  else
    some (.out (.inl ()))
noncomputable def law41_NoticeSteps (a0 : List Int) : Option (Bool) :=
  if (decide (400 < ((a0).length : Int))) = true then
    (law41_awake).bind fun y1 =>
    some y1
  else
  (make_Calendar (⟨a0, 0⟩ : make_Tape)).bind fun y2 =>
  (make_Directory y2.2).bind fun y3 =>
  (make_Stewards y3.2 y3.1).bind fun y4 =>
  (make_Cases y4.2 y3.1).bind fun y5 =>
  (notice_All y2.1 y3.1 y4.1 y5.1 500).bind fun y6 =>
  if (y6.2 != 0) = true then
    some false
  else
  (iter (law41_NoticeSteps_l0 y5 y6 y3 y4 y2) 0).bind fun q29 =>
  match q29 with
  | .inl v7 =>
    (iter (law41_NoticeSteps_l1 y6) 1).bind fun q14 =>
    match q14 with
    | .inl v8 =>
      (law41_awake).bind fun y9 =>
      some y9
    | .inr r13 =>
      some r13
  | .inr r28 =>
    some r28
noncomputable def law41_NoticeQuiet_l2 (y6 : (List api_Notice) × Int) (x10 : api_Case) (v11 : Int) (s14 : Int × Int) : Option (Lp (Int × Int) (Int ⊕ Bool)) :=
  if (decide (s14.2 < ((y6.1).length : Int))) = true then
    (idx y6.1 s14.2).bind fun x15 =>
    if (x15.Case != x10.Case) = true then
      some (.go (s14.1, IntKind.i64.wrap (s14.2 + 1)))
    else
    (some ((decide (0 ≤ v11)) && ((decide (0 < x15.Step)) && (decide (v11 ≤ x15.Time))))).bind fun v16 =>
    if v16 = true then
      some (.out (.inr false))
    else
      some (.go (IntKind.i64.wrap (s14.1 + 1), IntKind.i64.wrap (s14.2 + 1)))
  else
    some (.out (.inl s14.1))
noncomputable def law41_NoticeQuiet_l1 (y5 : (List api_Case) × make_Tape) (s9 : Int) (x10 : api_Case) (s19 : Int × Int) : Option (Lp (Int × Int) Int) :=
  if (decide (s19.2 < ((((y5.1).drop (Int.toNat (IntKind.i64.wrap (s9 + 1))))).length : Int))) = true then
    (idx ((y5.1).drop (Int.toNat (IntKind.i64.wrap (s9 + 1)))) s19.2).bind fun x20 =>
    (some ((x20.Case == x10.Case) && (decide (s19.1 < 0)))).bind fun v21 =>
    if v21 = true then
      some (.go (x20.Time, IntKind.i64.wrap (s19.2 + 1)))
    else
      some (.go (s19.1, IntKind.i64.wrap (s19.2 + 1)))
  else
    some (.out s19.1)
noncomputable def law41_NoticeQuiet_l0 (y5 : (List api_Case) × make_Tape) (y6 : (List api_Notice) × Int) (s9 : Int) : Option (Lp Int (Unit ⊕ Bool)) :=
  if (decide (s9 < ((y5.1).length : Int))) = true then
    (idx y5.1 s9).bind fun x10 =>
    if (x10.Kind != 1) = true then
      some (.go (IntKind.i64.wrap (s9 + 1)))
    else
    (ck (0 ≤ IntKind.i64.wrap (s9 + 1) ∧ IntKind.i64.wrap (s9 + 1) ≤ ((y5.1).length : Int) ∧ ((y5.1).length : Int) ≤ ((y5.1).length : Int))).bind fun _ =>
    (iter (law41_NoticeQuiet_l1 y5 s9 x10) ((-1), 0)).bind fun v11 =>
    (iter (law41_NoticeQuiet_l2 y6 x10 v11) (0, 0)).bind fun q18 =>
    match q18 with
    | .inl v12 =>
      (some (bif (decide (v11 < 0)) then ((v12 != 4) || ((decide (v12 < 1)) || (decide (4 < v12)))) else ((decide (v12 < 1)) || (decide (4 < v12))))).bind fun v13 =>
      if v13 = true then
        some (.out (.inr false))
      else
        some (.go (IntKind.i64.wrap (s9 + 1)))
    | .inr r17 =>
      some (.out (.inr r17))
  else
    some (.out (.inl ()))
noncomputable def law41_NoticeQuiet (a0 : List Int) : Option (Bool) :=
  if (decide (400 < ((a0).length : Int))) = true then
    (law41_awake).bind fun y1 =>
    some y1
  else
  (make_Calendar (⟨a0, 0⟩ : make_Tape)).bind fun y2 =>
  (make_Directory y2.2).bind fun y3 =>
  (make_Stewards y3.2 y3.1).bind fun y4 =>
  (make_Cases y4.2 y3.1).bind fun y5 =>
  (notice_All y2.1 y3.1 y4.1 y5.1 20000).bind fun y6 =>
  if (y6.2 != 0) = true then
    some false
  else
  (iter (law41_NoticeQuiet_l0 y5 y6) 0).bind fun q23 =>
  match q23 with
  | .inl v7 =>
    (law41_awake).bind fun y8 =>
    some y8
  | .inr r22 =>
    some r22
noncomputable def ref41_Same_l0 (a0 : List api_Notice) (a1 : List api_Notice) (s2 : Int) : Option (Lp Int (Unit ⊕ Bool)) :=
  if (decide (s2 < ((a0).length : Int))) = true then
    (idx a0 s2).bind fun x3 =>
    (idx a1 s2).bind fun x4 =>
    if (!((x3.Time == x4.Time) && ((x3.Case == x4.Case) && ((x3.To == x4.To) && (x3.Step == x4.Step))))) = true then
      some (.out (.inr false))
    else
      some (.go (IntKind.i64.wrap (s2 + 1)))
  else
    some (.out (.inl ()))
noncomputable def ref41_Same (a0 : List api_Notice) (a1 : List api_Notice) : Option (Bool) :=
  if (((a0).length : Int) != ((a1).length : Int)) = true then
    some false
  else
  (iter (ref41_Same_l0 a0 a1) 0).bind fun q6 =>
  match q6 with
  | .inl v1 =>
    some true
  | .inr r5 =>
    some r5
noncomputable def law41_NoticeUntil_l3 (y7 : (List api_Notice) × Int) (x22 : api_Notice) (s24 : Bool × Int) : Option (Lp (Bool × Int) Bool) :=
  if (decide (s24.2 < ((y7.1).length : Int))) = true then
    (idx y7.1 s24.2).bind fun x25 =>
    (some (s24.1 || ((x22.Time == x25.Time) && ((x22.Case == x25.Case) && ((x22.To == x25.To) && (x22.Step == x25.Step)))))).bind fun v26 =>
    some (.go (v26, IntKind.i64.wrap (s24.2 + 1)))
  else
    some (.out s24.1)
noncomputable def law41_NoticeUntil_l2 (y18 : (List api_Notice) × Int) (y7 : (List api_Notice) × Int) (s21 : Int) : Option (Lp Int (Unit ⊕ Bool)) :=
  if (decide (s21 < ((y18.1).length : Int))) = true then
    (idx y18.1 s21).bind fun x22 =>
    (iter (law41_NoticeUntil_l3 y7 x22) (false, 0)).bind fun v23 =>
    if (!v23) = true then
      some (.out (.inr false))
    else
      some (.go (IntKind.i64.wrap (s21 + 1)))
  else
    some (.out (.inl ()))
noncomputable def law41_NoticeUntil_l1 (y5 : (List api_Case) × make_Tape) (y2 : api_Calendar × make_Tape) (y3 : api_Directory × make_Tape) (y4 : (List api_Steward) × make_Tape) (y6 : Int × make_Tape) (y7 : (List api_Notice) × Int) (s15 : Int) : Option (Lp Int (Unit ⊕ Bool)) :=
  if (decide (s15 < ((y5.1).length : Int))) = true then
    (idx y5.1 s15).bind fun x16 =>
    if (x16.Kind != 1) = true then
      some (.go (IntKind.i64.wrap (s15 + 1)))
    else
    (ck ((y5.1).length ≤ 268435456)).bind fun _ =>
    (idx y5.1 (IntKind.i64.wrap (((y5.1).length : Int) - 1))).bind fun x17 =>
    (ck ((y5.1).length + ([(⟨x17.Time, 2, x16.Case, 0, 0⟩ : api_Case)]).length ≤ 268435456)).bind fun _ =>
    (notice_All y2.1 y3.1 y4.1 (y5.1 ++ [(⟨x17.Time, 2, x16.Case, 0, 0⟩ : api_Case)]) y6.1).bind fun y18 =>
    (some ((y18.2 != 0) || (decide (((y7.1).length : Int) < ((y18.1).length : Int))))).bind fun v19 =>
    if v19 = true then
      some (.out (.inr false))
    else
    (iter (law41_NoticeUntil_l2 y18 y7) 0).bind fun q28 =>
    match q28 with
    | .inl v20 =>
      some (.go (IntKind.i64.wrap (s15 + 1)))
    | .inr r27 =>
      some (.out (.inr r27))
  else
    some (.out (.inl ()))
noncomputable def law41_NoticeUntil_l0 (y9 : (List api_Notice) × Int) (y6 : Int × make_Tape) (s31 : Int × (List api_Notice)) : Option (Lp (Int × (List api_Notice)) (List api_Notice)) :=
  if (decide (s31.1 < ((y9.1).length : Int))) = true then
    (idx y9.1 s31.1).bind fun x32 =>
    if (decide (x32.Time ≤ y6.1)) = true then
      (ck ((s31.2).length + ([x32]).length ≤ 268435456)).bind fun _ =>
      some (.go (IntKind.i64.wrap (s31.1 + 1), (s31.2 ++ [x32])))
    else
      some (.go (IntKind.i64.wrap (s31.1 + 1), s31.2))
  else
    some (.out s31.2)
noncomputable def law41_NoticeUntil (a0 : List Int) : Option (Bool) :=
  if (decide (400 < ((a0).length : Int))) = true then
    (law41_awake).bind fun y1 =>
    some y1
  else
  (make_Calendar (⟨a0, 0⟩ : make_Tape)).bind fun y2 =>
  (make_Directory y2.2).bind fun y3 =>
  (make_Stewards y3.2 y3.1).bind fun y4 =>
  (make_Cases y4.2 y3.1).bind fun y5 =>
  (make_Tape_Next y5.2 80).bind fun y6 =>
  (notice_All y2.1 y3.1 y4.1 y5.1 y6.1).bind fun y7 =>
  (make_Tape_Next y6.2 200).bind fun y8 =>
  (notice_All y2.1 y3.1 y4.1 y5.1 (IntKind.i64.wrap (y6.1 + y8.1))).bind fun y9 =>
  (some ((y7.2 != 0) || (y9.2 != 0))).bind fun v10 =>
  if v10 = true then
    some false
  else
  (iter (law41_NoticeUntil_l0 y9 y6) (0, [])).bind fun v11 =>
  (ref41_Same y7.1 v11).bind fun y12 =>
  if (!y12) = true then
    some false
  else
  (iter (law41_NoticeUntil_l1 y5 y2 y3 y4 y6 y7) 0).bind fun q30 =>
  match q30 with
  | .inl v13 =>
    (law41_awake).bind fun y14 =>
    some y14
  | .inr r29 =>
    some r29
noncomputable def slices_order2Ordered_int (a0 : List Int) (a1 : Int) (a2 : Int) (a3 : Int) : Option (Int × Int × Int) :=
  (idx a0 a2).bind fun x1 =>
  (idx a0 a1).bind fun x2 =>
  (cmp_Less_int x1 x2).bind fun y3 =>
  if y3 = true then
    some (a2, a1, IntKind.i64.wrap (a3 + 1))
  else
    some (a1, a2, a3)
noncomputable def slices_medianOrdered_int (a0 : List Int) (a1 : Int) (a2 : Int) (a3 : Int) (a4 : Int) : Option (Int × Int) :=
  (slices_order2Ordered_int a0 a1 a2 a4).bind fun y1 =>
  (slices_order2Ordered_int a0 y1.2.1 a3 y1.2.2).bind fun y2 =>
  (slices_order2Ordered_int a0 y1.1 y2.1 y2.2.2).bind fun y3 =>
  some (y3.2.1, y3.2.2)
noncomputable def slices_medianAdjacentOrdered_int (a0 : List Int) (a1 : Int) (a2 : Int) : Option (Int × Int) :=
  (slices_medianOrdered_int a0 (IntKind.i64.wrap (a1 - 1)) a1 (IntKind.i64.wrap (a1 + 1)) a2).bind fun y1 =>
  some (y1.1, y1.2)
noncomputable def slices_choosePivotOrdered_int_j0  (v1 : Int × Int) : Option (Int × Int) :=
  if (v1.2 == 0) = true then
    some (v1.1, 1)
  else
  if (v1.2 == 12) = true then
    some (v1.1, 2)
  else
    some (v1.1, 0)
noncomputable def slices_choosePivotOrdered_int_j1 (a0 : List Int) (v2 : Int × Int × Int × Int) : Option (Int × Int) :=
  (slices_medianOrdered_int a0 v2.1 v2.2.1 v2.2.2.1 v2.2.2.2).bind fun y3 =>
  slices_choosePivotOrdered_int_j0 (y3.1, y3.2)
noncomputable def slices_choosePivotOrdered_int (a0 : List Int) (a1 : Int) (a2 : Int) : Option (Int × Int) :=
  if (decide (8 ≤ (IntKind.i64.wrap (a2 - a1)))) = true then
    if (decide (50 ≤ (IntKind.i64.wrap (a2 - a1)))) = true then
      (slices_medianAdjacentOrdered_int a0 (IntKind.i64.wrap (a1 + (IntKind.i64.wrap ((IntKind.i64.wrap (((IntKind.i64.wrap (a2 - a1))).tdiv 4)) * 1)))) 0).bind fun y4 =>
      (slices_medianAdjacentOrdered_int a0 (IntKind.i64.wrap (a1 + (IntKind.i64.wrap ((IntKind.i64.wrap (((IntKind.i64.wrap (a2 - a1))).tdiv 4)) * 2)))) y4.2).bind fun y5 =>
      (slices_medianAdjacentOrdered_int a0 (IntKind.i64.wrap (a1 + (IntKind.i64.wrap ((IntKind.i64.wrap (((IntKind.i64.wrap (a2 - a1))).tdiv 4)) * 3)))) y5.2).bind fun y6 =>
      slices_choosePivotOrdered_int_j1 a0 (y4.1, y5.1, y6.1, y6.2)
    else
      slices_choosePivotOrdered_int_j1 a0 (IntKind.i64.wrap (a1 + (IntKind.i64.wrap ((IntKind.i64.wrap (((IntKind.i64.wrap (a2 - a1))).tdiv 4)) * 1))), IntKind.i64.wrap (a1 + (IntKind.i64.wrap ((IntKind.i64.wrap (((IntKind.i64.wrap (a2 - a1))).tdiv 4)) * 2))), IntKind.i64.wrap (a1 + (IntKind.i64.wrap ((IntKind.i64.wrap (((IntKind.i64.wrap (a2 - a1))).tdiv 4)) * 3))), 0)
  else
    slices_choosePivotOrdered_int_j0 (IntKind.i64.wrap (a1 + (IntKind.i64.wrap ((IntKind.i64.wrap (((IntKind.i64.wrap (a2 - a1))).tdiv 4)) * 2))), 0)
noncomputable def notice_Open_l0 (a1 : List api_Case) (a2 : Int) (s4 : Int × (List (Int × Bool))) : Option (Lp (Int × (List (Int × Bool))) (List (Int × Bool))) :=
  if (decide (s4.1 < ((a1).length : Int))) = true then
    (idx a1 s4.1).bind fun x5 =>
    if (decide (a2 < x5.Time)) = true then
      some (.go (IntKind.i64.wrap (s4.1 + 1), s4.2))
    else
    if (x5.Kind == 1) = true then
      some (.go (IntKind.i64.wrap (s4.1 + 1), (mset inE s4.2 x5.Case true)))
    else
    if (x5.Kind == 3) = true then
      some (.go (IntKind.i64.wrap (s4.1 + 1), (mdel inE s4.2 x5.Case)))
    else
      some (.go (IntKind.i64.wrap (s4.1 + 1), s4.2))
  else
    some (.out s4.2)
noncomputable def notice_Open (a0 : api_Directory) (a1 : List api_Case) (a2 : Int) : Option ((List Int)) :=
  (notice_Check a0 a1).bind fun y1 =>
  if (y1 != 0) = true then
    some []
  else
  (iter (notice_Open_l0 a1 a2) (0, [])).bind fun v2 =>
  (notice_sorted v2).bind fun y3 =>
  some y3
noncomputable def notice_Late_l0 (y1 : (List api_Notice) × Int) (y2 : (List Int)) (s5 : Int × (List (Int × Bool))) : Option (Lp (Int × (List (Int × Bool))) (List (Int × Bool))) :=
  if (decide (s5.1 < ((y1.1).length : Int))) = true then
    (idx y1.1 s5.1).bind fun x6 =>
    Option.bind (
      if (decide (0 < x6.Step)) = true then
        (slices_Contains_int y2 x6.Case).bind fun y8 =>
        some y8
      else
        some false) fun v7 =>
    if v7 = true then
      some (.go (IntKind.i64.wrap (s5.1 + 1), (mset inE s5.2 x6.Case true)))
    else
      some (.go (IntKind.i64.wrap (s5.1 + 1), s5.2))
  else
    some (.out s5.2)
noncomputable def notice_Late (a0 : api_Calendar) (a1 : api_Directory) (a2 : List api_Steward) (a3 : List api_Case) (a4 : Int) : Option ((List Int) × Int) :=
  (notice_All a0 a1 a2 a3 a4).bind fun y1 =>
  if (y1.2 != 0) = true then
    some ([], y1.2)
  else
  (notice_Open a1 a3 a4).bind fun y2 =>
  (iter (notice_Late_l0 y1 y2) (0, [])).bind fun v3 =>
  (notice_sorted v3).bind fun y4 =>
  some (y4, 0)
noncomputable def law41_NoticeApart_l1 (y9 : (List Int) × Int) (y10 : (List Int)) (s14 : Int) : Option (Lp Int (Unit ⊕ Bool)) :=
  if (decide (s14 < ((y9.1).length : Int))) = true then
    (idx y9.1 s14).bind fun x15 =>
    (ref23_Has y10 x15).bind fun y16 =>
    if (!y16) = true then
      some (.out (.inr false))
    else
      some (.go (IntKind.i64.wrap (s14 + 1)))
  else
    some (.out (.inl ()))
noncomputable def law41_NoticeApart_l3 (y7 : (List api_Notice) × Int) (s19 : Int) (s25 : Int × (List api_Notice)) : Option (Lp (Int × (List api_Notice)) (List api_Notice)) :=
  if (decide (s25.1 < ((y7.1).length : Int))) = true then
    (idx y7.1 s25.1).bind fun x26 =>
    if (x26.Case == s19) = true then
      (ck ((s25.2).length + ([x26]).length ≤ 268435456)).bind fun _ =>
      some (.go (IntKind.i64.wrap (s25.1 + 1), (s25.2 ++ [x26])))
    else
      some (.go (IntKind.i64.wrap (s25.1 + 1), s25.2))
  else
    some (.out s25.2)
noncomputable def law41_NoticeApart_l2 (y5 : (List api_Case) × make_Tape) (s19 : Int) (s27 : Int × (List api_Case)) : Option (Lp (Int × (List api_Case)) (List api_Case)) :=
  if (decide (s27.1 < ((y5.1).length : Int))) = true then
    (idx y5.1 s27.1).bind fun x28 =>
    if (x28.Case == s19) = true then
      (ck ((s27.2).length + ([x28]).length ≤ 268435456)).bind fun _ =>
      some (.go (IntKind.i64.wrap (s27.1 + 1), (s27.2 ++ [x28])))
    else
      some (.go (IntKind.i64.wrap (s27.1 + 1), s27.2))
  else
    some (.out s27.2)
noncomputable def law41_NoticeApart_l0 (y5 : (List api_Case) × make_Tape) (y2 : api_Calendar × make_Tape) (y3 : api_Directory × make_Tape) (y4 : (List api_Steward) × make_Tape) (y6 : Int × make_Tape) (y7 : (List api_Notice) × Int) (s19 : Int) : Option (Lp Int (Unit ⊕ Bool)) :=
  if (decide (s19 < 3)) = true then
    (iter (law41_NoticeApart_l2 y5 s19) (0, [])).bind fun v20 =>
    (notice_All y2.1 y3.1 y4.1 v20 y6.1).bind fun y21 =>
    (iter (law41_NoticeApart_l3 y7 s19) (0, [])).bind fun v22 =>
    Option.bind (
      if (y21.2 != 0) = true then
        some true
      else
      (ref41_Same y21.1 v22).bind fun y24 =>
      some (!y24)) fun v23 =>
    if v23 = true then
      some (.out (.inr false))
    else
      some (.go (IntKind.i64.wrap (s19 + 1)))
  else
    some (.out (.inl ()))
noncomputable def law41_NoticeApart (a0 : List Int) : Option (Bool) :=
  if (decide (400 < ((a0).length : Int))) = true then
    (law41_awake).bind fun y1 =>
    some y1
  else
  (make_Calendar (⟨a0, 0⟩ : make_Tape)).bind fun y2 =>
  (make_Directory y2.2).bind fun y3 =>
  (make_Stewards y3.2 y3.1).bind fun y4 =>
  (make_Cases y4.2 y3.1).bind fun y5 =>
  (make_Tape_Next y5.2 400).bind fun y6 =>
  (notice_All y2.1 y3.1 y4.1 y5.1 y6.1).bind fun y7 =>
  if (y7.2 != 0) = true then
    some false
  else
  (iter (law41_NoticeApart_l0 y5 y2 y3 y4 y6 y7) 0).bind fun q30 =>
  match q30 with
  | .inl v8 =>
    (notice_Late y2.1 y3.1 y4.1 y5.1 y6.1).bind fun y9 =>
    (notice_Open y3.1 y5.1 y6.1).bind fun y10 =>
    (iter (law41_NoticeApart_l1 y9 y10) 0).bind fun q18 =>
    match q18 with
    | .inl v11 =>
      Option.bind (
        if (y9.2 == 0) = true then
          (law41_awake).bind fun y13 =>
          some y13
        else
          some false) fun v12 =>
      some v12
    | .inr r17 =>
      some r17
  | .inr r29 =>
    some r29
end Go.Vl
