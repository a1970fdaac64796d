/- Plain functions that mirror functions of the given program. Conditions: none. -/
import Derived.Test.YtciimncnodejaaaGreatDoorXs
import Derived.Test.YtciimncnodejaaaGreatDoorXh
set_option linter.unusedSimpArgs false
set_option linter.unusedVariables false
namespace Go.Vl
open Go
noncomputable def calendar_among (a0 : Int) (a1 : Int) (a2 : Int) : Option (Bool) :=
  (some ((decide (a1 ≤ a0)) && (decide (a0 ≤ a2)))).bind fun v1 =>
  some v1
noncomputable def directory_Ascending_l0 (a0 : List Int) (s2 : Int) : Option (Lp Int (Unit ⊕ Bool)) :=
  if (decide (s2 < ((a0).length : Int))) = true then
    (idx a0 (IntKind.i64.wrap (s2 - 1))).bind fun x3 =>
    (idx a0 s2).bind fun x4 =>
    if (decide (x4 ≤ x3)) = true then
      some (.out (.inr false))
    else
      some (.go (IntKind.i64.wrap (s2 + 1)))
  else
    some (.out (.inl ()))
noncomputable def directory_Ascending (a0 : List Int) : Option (Bool) :=
  (iter (directory_Ascending_l0 a0) 1).bind fun q6 =>
  match q6 with
  | .inl v1 =>
    some true
  | .inr r5 =>
    some r5
noncomputable def calendar_Check (a0 : api_Calendar) : Option (Int) :=
  Option.bind (
    (calendar_among a0.Day 1 48).bind fun y5 =>
    if (!y5) = true then
      some true
    else
    if (decide (a0.From < 0)) = true then
      some true
    else
    if (decide (a0.To ≤ a0.From)) = true then
      some true
    else
    if (decide (a0.Day < a0.To)) = true then
      some true
    else
    (calendar_among a0.Week 0 127).bind fun y6 =>
    some (!y6)) fun v1 =>
  if v1 = true then
    some 42
  else
  Option.bind (
    if (decide (40 < ((a0.Holidays).length : Int))) = true then
      some true
    else
    (directory_Ascending a0.Holidays).bind fun y3 =>
    if (!y3) = true then
      some true
    else
    if (decide (0 < ((a0.Holidays).length : Int))) = true then
      (idx a0.Holidays 0).bind fun x4 =>
      some (decide (x4 < 0))
    else
      some false) fun v2 =>
  if v2 = true then
    some 42
  else
    some 0
noncomputable def directory_Check_1 (a0 : Int) : Option (Bool) :=
  (some ((decide (a0 < 1)) || (decide (3 < a0)))).bind fun v1 =>
  some v1
noncomputable def directory_exists (a0 : api_Directory) (a1 : Int) : Option (Bool) :=
  (some ((decide (0 ≤ a1)) && (decide (a1 < ((a0.Kinds).length : Int))))).bind fun v1 =>
  some v1
noncomputable def directory_group (a0 : api_Directory) (a1 : Int) : Option (Bool) :=
  Option.bind (
    (directory_exists a0 a1).bind fun y2 =>
    if y2 = true then
      (idx a0.Kinds a1).bind fun x3 =>
      some (x3 == 2)
    else
      some false) fun v1 =>
  some v1
noncomputable def slices_IndexFunc_int_at_directory_Check_1_l0 (a0 : List Int) (s2 : Int) : Option (Lp Int (Unit ⊕ Int)) :=
  if (decide (s2 < ((a0).length : Int))) = true then
    (idx a0 s2).bind fun x3 =>
    (directory_Check_1 x3).bind fun y4 =>
    if y4 = true then
      some (.out (.inr s2))
    else
      some (.go (IntKind.i64.wrap (s2 + 1)))
  else
    some (.out (.inl ()))
noncomputable def slices_IndexFunc_int_at_directory_Check_1 (a0 : List Int) : Option (Int) :=
  (iter (slices_IndexFunc_int_at_directory_Check_1_l0 a0) 0).bind fun q6 =>
  match q6 with
  | .inl v1 =>
    some (-1)
  | .inr r5 =>
    some r5
noncomputable def slices_ContainsFunc_int_at_directory_Check_1 (a0 : List Int) : Option (Bool) :=
  (slices_IndexFunc_int_at_directory_Check_1 a0).bind fun y1 =>
  some (decide (0 ≤ y1))
noncomputable def directory_Check_l0 (a0 : api_Directory) (s3 : Int × Int) : Option (Lp (Int × Int) (Unit ⊕ Int)) :=
  if (decide (s3.2 < ((a0.Events).length : Int))) = true then
    (idx a0.Events s3.2).bind fun x4 =>
    Option.bind (
      if (x4.Kind != 1) = true then
        if (x4.Kind != 2) = true then
          some true
        else
        if (decide (x4.Time < s3.1)) = true then
          some true
        else
        if (decide (1099511627776 < x4.Time)) = true then
          some true
        else
        (directory_exists a0 x4.Principal).bind fun y6 =>
        if (!y6) = true then
          some true
        else
        (directory_group a0 x4.Group).bind fun y7 =>
        if (!y7) = true then
          some true
        else
          some (x4.Principal == x4.Group)
      else
      if (decide (x4.Time < s3.1)) = true then
        some true
      else
      if (decide (1099511627776 < x4.Time)) = true then
        some true
      else
      (directory_exists a0 x4.Principal).bind fun y8 =>
      if (!y8) = true then
        some true
      else
      (directory_group a0 x4.Group).bind fun y9 =>
      if (!y9) = true then
        some true
      else
        some (x4.Principal == x4.Group)) fun v5 =>
    if v5 = true then
      some (.out (.inr 30))
    else
      some (.go (x4.Time, IntKind.i64.wrap (s3.2 + 1)))
  else
    some (.out (.inl ()))
noncomputable def directory_Check (a0 : api_Directory) : Option (Int) :=
  Option.bind (
    if (decide (24 < ((a0.Kinds).length : Int))) = true then
      some true
    else
    if (decide (120 < ((a0.Events).length : Int))) = true then
      some true
    else
    (slices_ContainsFunc_int_at_directory_Check_1 a0.Kinds).bind fun y12 =>
    some y12) fun v1 =>
  if v1 = true then
    some 30
  else
  (iter (directory_Check_l0 a0) (0, 0)).bind fun q11 =>
  match q11 with
  | .inl v2 =>
    some 0
  | .inr r10 =>
    some r10
noncomputable def owners_exists (a0 : api_Directory) (a1 : Int) : Option (Bool) :=
  (some ((decide (0 ≤ a1)) && (decide (a1 < ((a0.Kinds).length : Int))))).bind fun v1 =>
  some v1
noncomputable def owners_Check_l0 (a1 : List api_Steward) (a0 : api_Directory) (s3 : Int × Int) : Option (Lp (Int × Int) (Unit ⊕ Int)) :=
  if (decide (s3.2 < ((a1).length : Int))) = true then
    (idx a1 s3.2).bind fun x4 =>
    Option.bind (
      if (decide (x4.Time < s3.1)) = true then
        some true
      else
      if (decide (1099511627776 < x4.Time)) = true then
        some true
      else
      (owners_exists a0 x4.Subject).bind fun y6 =>
      if (!y6) = true then
        some true
      else
      if (x4.Steward != (-1)) = true then
        (owners_exists a0 x4.Steward).bind fun y7 =>
        if (!y7) = true then
          some true
        else
          some (x4.Steward == x4.Subject)
      else
        some false) fun v5 =>
    if v5 = true then
      some (.out (.inr 33))
    else
      some (.go (x4.Time, IntKind.i64.wrap (s3.2 + 1)))
  else
    some (.out (.inl ()))
noncomputable def owners_Check (a0 : api_Directory) (a1 : List api_Steward) : Option (Int) :=
  (directory_Check a0).bind fun y1 =>
  if (y1 != 0) = true then
    some y1
  else
  if (decide (120 < ((a1).length : Int))) = true then
    some 33
  else
  (iter (owners_Check_l0 a1 a0) (0, 0)).bind fun q9 =>
  match q9 with
  | .inl v2 =>
    some 0
  | .inr r8 =>
    some r8
noncomputable def notice_right_j0 (a2 : List (Int × Bool)) (a1 : api_Case) (v4 : Bool) : Option Bool :=
  if v4 = true then
    (some (((mget inE a2 a1.Case).getD false) && ((a1.Level == 0) && (a1.Owner == 0)))).bind fun v5 =>
    some v5
  else
    some false
noncomputable def notice_right (a0 : api_Directory) (a1 : api_Case) (a2 : List (Int × Bool)) : Option (Bool) :=
  (some ((decide (a1.Case < 0)) || (decide (16 ≤ a1.Case)))).bind fun v1 =>
  if v1 = true then
    some false
  else
  if (a1.Kind == 1) = true then
    Option.bind (
      if (!((mget inE a2 a1.Case).getD false)) = true then
        (notice_Deadline a1.Level).bind fun y3 =>
        if (decide (0 < y3)) = true then
          if (decide (0 ≤ a1.Owner)) = true then
            some (decide (a1.Owner < ((a0.Kinds).length : Int)))
          else
            some false
        else
          some false
      else
        some false) fun v2 =>
    some v2
  else
  if (a1.Kind == 2) = true then
    notice_right_j0 a2 a1 (a1.Kind == 2)
  else
    notice_right_j0 a2 a1 (a1.Kind == 3)
noncomputable def notice_Check_l0 (a1 : List api_Case) (a0 : api_Directory) (s3 : Int × Int × (List (Int × Bool))) : Option (Lp (Int × Int × (List (Int × Bool))) (Unit ⊕ Int)) :=
  if (decide (s3.2.1 < ((a1).length : Int))) = true then
    (idx a1 s3.2.1).bind fun x4 =>
    Option.bind (
      if (decide (x4.Time < s3.1)) = true then
        some true
      else
      if (decide (1099511627776 < x4.Time)) = true then
        some true
      else
      (notice_right a0 x4 s3.2.2).bind fun y6 =>
      some (!y6)) fun v5 =>
    if v5 = true then
      some (.out (.inr 43))
    else
      some (.go (x4.Time, IntKind.i64.wrap (s3.2.1 + 1), (mset inE s3.2.2 x4.Case true)))
  else
    some (.out (.inl ()))
noncomputable def notice_Check (a0 : api_Directory) (a1 : List api_Case) : Option (Int) :=
  (directory_Check a0).bind fun y1 =>
  if (y1 != 0) = true then
    some y1
  else
  if (decide (100 < ((a1).length : Int))) = true then
    some 43
  else
  (iter (notice_Check_l0 a1 a0) (0, 0, [])).bind fun q8 =>
  match q8 with
  | .inl v2 =>
    some 0
  | .inr r7 =>
    some r7
noncomputable def notice_first_l0 (a0 : List Int) (s2 : Int) : Option (Lp Int (Unit ⊕ Int)) :=
  if (decide (s2 < ((a0).length : Int))) = true then
    (idx a0 s2).bind fun x3 =>
    if (x3 != 0) = true then
      some (.out (.inr x3))
    else
      some (.go (IntKind.i64.wrap (s2 + 1)))
  else
    some (.out (.inl ()))
noncomputable def notice_first (a0 : List Int) : Option (Int) :=
  (iter (notice_first_l0 a0) 0).bind fun q5 =>
  match q5 with
  | .inl v1 =>
    some 0
  | .inr r4 =>
    some r4
noncomputable def calendar_tick (a0 : Int) : Option (Bool) :=
  (calendar_among a0 0 1099511627776).bind fun y1 =>
  some y1
noncomputable def cmp_isNaN_int (a0 : Int) : Option (Bool) :=
  some (a0 != a0)
noncomputable def cmp_Less_int (a0 : Int) (a1 : Int) : Option (Bool) :=
  Option.bind (
    (cmp_isNaN_int a0).bind fun y2 =>
    if y2 = true then
      (cmp_isNaN_int a1).bind fun y3 =>
      if (!y3) = true then
        some true
      else
        some (decide (a0 < a1))
    else
      some (decide (a0 < a1))) fun v1 =>
  some v1
noncomputable def slices_isNaN_int (a0 : Int) : Option (Bool) :=
  some (a0 != a0)
noncomputable def slices_BinarySearch_int_l0 (a0 : List Int) (a1 : Int) (s6 : Int × Int) : Option (Lp (Int × Int) Int) :=
  if (decide (s6.1 < s6.2)) = true then
    (idx a0 (IntKind.i64.wrap (((IntKind.u64.wrap (IntKind.i64.wrap (s6.1 + s6.2)))).fdiv (2 ^ (min 1 IntKind.u64.bits))))).bind fun x7 =>
    (cmp_Less_int x7 a1).bind fun y8 =>
    if y8 = true then
      some (.go (IntKind.i64.wrap ((IntKind.i64.wrap (((IntKind.u64.wrap (IntKind.i64.wrap (s6.1 + s6.2)))).fdiv (2 ^ (min 1 IntKind.u64.bits)))) + 1), s6.2))
    else
      some (.go (s6.1, IntKind.i64.wrap (((IntKind.u64.wrap (IntKind.i64.wrap (s6.1 + s6.2)))).fdiv (2 ^ (min 1 IntKind.u64.bits)))))
  else
    some (.out s6.1)
noncomputable def slices_BinarySearch_int (a0 : List Int) (a1 : Int) : Option (Int × Bool) :=
  (iter (slices_BinarySearch_int_l0 a0 a1) (0, ((a0).length : Int))).bind fun v1 =>
  Option.bind (
    if (decide (v1 < ((a0).length : Int))) = true then
      (idx a0 v1).bind fun x3 =>
      if (x3 == a1) = true then
        some true
      else
      (slices_isNaN_int x3).bind fun y4 =>
      if y4 = true then
        (slices_isNaN_int a1).bind fun y5 =>
        some y5
      else
        some false
    else
      some false) fun v2 =>
  some (v1, v2)
noncomputable def calendar_working (a0 : api_Calendar) (a1 : Int) : Option (Bool) :=
  (ck (a0.Day ≠ 0)).bind fun _ =>
  (ck (a0.Day ≠ 0)).bind fun _ =>
  (slices_BinarySearch_int a0.Holidays (IntKind.i64.wrap ((a1).tdiv a0.Day))).bind fun y1 =>
  Option.bind (
    if (decide (a0.From ≤ ((a1).tmod a0.Day))) = true then
      if (decide (((a1).tmod a0.Day) < a0.To)) = true then
        (ck (¬ (((IntKind.i64.wrap ((a1).tdiv a0.Day))).tmod 7) < 0)).bind fun _ =>
        if ((bAnd .i64 ((a0.Week).fdiv (2 ^ (min (Int.toNat (((IntKind.i64.wrap ((a1).tdiv a0.Day))).tmod 7)) IntKind.i64.bits))) 1) == 1) = true then
          some (!y1.2)
        else
          some false
      else
        some false
    else
      some false) fun v2 =>
  some v2
noncomputable def calendar_Add_l0 (a1 : Int) (a0 : api_Calendar) (s4 : Int × Int) : Option (Lp (Int × Int) (Unit ⊕ (Int × Int))) :=
  if (decide (s4.2 ≤ (if 1099511627776 < (IntKind.i64.wrap (a1 + 100000)) then 1099511627776 else (IntKind.i64.wrap (a1 + 100000))))) = true then
    if (s4.1 == 0) = true then
      some (.out (.inr (s4.2, 0)))
    else
    (calendar_working a0 s4.2).bind fun y5 =>
    if y5 = true then
      some (.go (IntKind.i64.wrap (s4.1 - 1), IntKind.i64.wrap (s4.2 + 1)))
    else
      some (.go (s4.1, IntKind.i64.wrap (s4.2 + 1)))
  else
    some (.out (.inl ()))
noncomputable def calendar_Add (a0 : api_Calendar) (a1 : Int) (a2 : Int) : Option (Int × Int) :=
  (calendar_Check a0).bind fun y1 =>
  if (y1 != 0) = true then
    some (0, 42)
  else
  Option.bind (
    (calendar_tick a1).bind fun y8 =>
    if (!y8) = true then
      some true
    else
    (calendar_among a2 0 1000).bind fun y9 =>
    some (!y9)) fun v2 =>
  if v2 = true then
    some (0, 2)
  else
  (iter (calendar_Add_l0 a1 a0) (a2, a1)).bind fun q7 =>
  match q7 with
  | .inl v3 =>
    some (0, 41)
  | .inr r6 =>
    some r6
noncomputable def notice_answered_1_cbb (a0 : api_Case) (a1 : Int) (a2 : Int) : Option (Bool × Int × Int) :=
  (some ((a0.Case == a1) && (decide (a0.Time ≤ a2)))).bind fun v1 =>
  some (v1, a1, a2)
noncomputable def slices_IndexFunc_api_Case_at_notice_answered_1_bb_l0 (a0 : List api_Case) (s2 : Int × Int × Int) : Option (Lp (Int × Int × Int) ((Int × Int) ⊕ (Int × Int × Int))) :=
  if (decide (s2.1 < ((a0).length : Int))) = true then
    (idx a0 s2.1).bind fun x3 =>
    (notice_answered_1_cbb x3 s2.2.1 s2.2.2).bind fun y4 =>
    if y4.1 = true then
      some (.out (.inr (s2.1, y4.2.1, y4.2.2)))
    else
      some (.go (IntKind.i64.wrap (s2.1 + 1), y4.2.1, y4.2.2))
  else
    some (.out (.inl (s2.2.1, s2.2.2)))
noncomputable def slices_IndexFunc_api_Case_at_notice_answered_1_bb (a0 : List api_Case) (b10 : Int) (b11 : Int) : Option (Int × Int × Int) :=
  (iter (slices_IndexFunc_api_Case_at_notice_answered_1_bb_l0 a0) (0, b10, b11)).bind fun q6 =>
  match q6 with
  | .inl v1 =>
    some ((-1), v1.1, v1.2)
  | .inr r5 =>
    some r5
noncomputable def slices_ContainsFunc_api_Case_at_notice_answered_1_bb (a0 : List api_Case) (b10 : Int) (b11 : Int) : Option (Bool × Int × Int) :=
  (slices_IndexFunc_api_Case_at_notice_answered_1_bb a0 b10 b11).bind fun y1 =>
  some ((decide (0 ≤ y1.1)), y1.2.1, y1.2.2)
noncomputable def notice_answered (a0 : List api_Case) (a1 : Int) (a2 : Int) : Option (Bool) :=
  (slices_ContainsFunc_api_Case_at_notice_answered_1_bb a0 a1 a2).bind fun y1 =>
  some y1.1
noncomputable def owners_known (a0 : api_Directory) (a1 : List api_Steward) (a2 : Int) : Option (Bool) :=
  Option.bind (
    (owners_Check a0 a1).bind fun y2 =>
    if (y2 == 0) = true then
      (owners_exists a0 a2).bind fun y3 =>
      some y3
    else
      some false) fun v1 =>
  some v1
noncomputable def slices_Index_int_l0 (a0 : List Int) (a1 : Int) (s2 : Int) : Option (Lp Int (Unit ⊕ Int)) :=
  if (decide (s2 < ((a0).length : Int))) = true then
    (idx a0 s2).bind fun x3 =>
    if (a1 == x3) = true then
      some (.out (.inr s2))
    else
      some (.go (IntKind.i64.wrap (s2 + 1)))
  else
    some (.out (.inl ()))
noncomputable def slices_Index_int (a0 : List Int) (a1 : Int) : Option (Int) :=
  (iter (slices_Index_int_l0 a0 a1) 0).bind fun q5 =>
  match q5 with
  | .inl v1 =>
    some (-1)
  | .inr r4 =>
    some r4
noncomputable def slices_Contains_int (a0 : List Int) (a1 : Int) : Option (Bool) :=
  (slices_Index_int a0 a1).bind fun y1 =>
  some (decide (0 ≤ y1))
noncomputable def owners_of_l0 (a0 : List api_Steward) (a1 : Int) (a2 : Int) (s2 : Int × Int) : Option (Lp (Int × Int) Int) :=
  if (decide (s2.2 < ((a0).length : Int))) = true then
    (idx a0 s2.2).bind fun x3 =>
    (some ((x3.Subject == a1) && (decide (x3.Time ≤ a2)))).bind fun v4 =>
    if v4 = true then
      some (.go (x3.Steward, IntKind.i64.wrap (s2.2 + 1)))
    else
      some (.go (s2.1, IntKind.i64.wrap (s2.2 + 1)))
  else
    some (.out s2.1)
noncomputable def owners_of (a0 : List api_Steward) (a1 : Int) (a2 : Int) : Option (Int) :=
  (iter (owners_of_l0 a0 a1 a2) ((-1), 0)).bind fun v1 =>
  some v1
noncomputable def owners_Way_l0 (a1 : List api_Steward) (a3 : Int) (s3 : Int × (List Int)) : Option (Lp (Int × (List Int)) (List Int)) :=
  Option.bind (
    if (s3.1 != (-1)) = true then
      (slices_Contains_int s3.2 s3.1).bind fun y6 =>
      some (!y6)
    else
      some false) fun v4 =>
  if v4 = true then
    (ck ((s3.2).length + ([s3.1]).length ≤ 268435456)).bind fun _ =>
    (owners_of a1 s3.1 a3).bind fun y5 =>
    some (.go (y5, (s3.2 ++ [s3.1])))
  else
    some (.out s3.2)
noncomputable def owners_Way (a0 : api_Directory) (a1 : List api_Steward) (a2 : Int) (a3 : Int) : Option ((List Int)) :=
  (owners_known a0 a1 a2).bind fun y1 =>
  if (!y1) = true then
    some []
  else
  (iter (owners_Way_l0 a1 a3) (a2, [])).bind fun v2 =>
  some v2
noncomputable def notice_all_l0 (x1 : api_Case) (a0 : api_Calendar) (a5 : Int) (a4 : Int) (a3 : List api_Case) (a1 : api_Directory) (a2 : List api_Steward) (s4 : Int × (List api_Notice)) : Option (Lp (Int × (List api_Notice)) ((List api_Notice) ⊕ ((List api_Notice) × Int))) :=
  if (decide (s4.1 ≤ 3)) = true then
    (ck (0 ≤ IntKind.i64.wrap (s4.1 - 1) ∧ (Int.toNat (IntKind.i64.wrap (s4.1 - 1))) < (s4.2).length)).bind fun _ =>
    (idx s4.2 (IntKind.i64.wrap (s4.1 - 1))).bind fun x5 =>
    (notice_Deadline x1.Level).bind fun y6 =>
    (calendar_Add a0 x5.Time y6).bind fun y7 =>
    if (y7.2 != 0) = true then
      some (.out (.inr ([], y7.2)))
    else
    Option.bind (
      if (decide (a5 < y7.1)) = true then
        some true
      else
      (ck (0 ≤ IntKind.i64.wrap (a4 + 1) ∧ IntKind.i64.wrap (a4 + 1) ≤ ((a3).length : Int) ∧ ((a3).length : Int) ≤ ((a3).length : Int))).bind fun _ =>
      (notice_answered ((a3).drop (Int.toNat (IntKind.i64.wrap (a4 + 1)))) x1.Case y7.1).bind fun y11 =>
      some y11) fun v8 =>
    if v8 = true then
      some (.out (.inl s4.2))
    else
    (owners_Way a1 a2 x1.Owner y7.1).bind fun y9 =>
    (idx y9 (if (IntKind.i64.wrap (((y9).length : Int) - 1)) < s4.1 then (IntKind.i64.wrap (((y9).length : Int) - 1)) else s4.1)).bind fun x10 =>
    (ck ((s4.2).length + ([(⟨y7.1, x1.Case, x10, s4.1⟩ : api_Notice)]).length ≤ 268435456)).bind fun _ =>
    some (.go (IntKind.i64.wrap (s4.1 + 1), (s4.2 ++ [(⟨y7.1, x1.Case, x10, s4.1⟩ : api_Notice)])))
  else
    some (.out (.inl s4.2))
noncomputable def notice_all (a0 : api_Calendar) (a1 : api_Directory) (a2 : List api_Steward) (a3 : List api_Case) (a4 : Int) (a5 : Int) : Option ((List api_Notice) × Int) :=
  (idx a3 a4).bind fun x1 =>
  if (decide (a5 < x1.Time)) = true then
    some ([], 0)
  else
  (some ([(⟨x1.Time, x1.Case, x1.Owner, 0⟩ : api_Notice)] : List api_Notice)).bind fun l2 =>
  (iter (notice_all_l0 x1 a0 a5 a4 a3 a1 a2) (1, l2)).bind fun q13 =>
  match q13 with
  | .inl v3 =>
    some (v3, 0)
  | .inr r12 =>
    some r12
noncomputable def slices_xorshift_Next (a0 : Int) : Option (Int × Int) :=
  some (bXor .u64 (bXor .u64 (bXor .u64 a0 (IntKind.u64.wrap (a0 * 2 ^ (min 13 IntKind.u64.bits)))) (((bXor .u64 a0 (IntKind.u64.wrap (a0 * 2 ^ (min 13 IntKind.u64.bits))))).fdiv (2 ^ (min 7 IntKind.u64.bits)))) (IntKind.u64.wrap ((bXor .u64 (bXor .u64 a0 (IntKind.u64.wrap (a0 * 2 ^ (min 13 IntKind.u64.bits)))) (((bXor .u64 a0 (IntKind.u64.wrap (a0 * 2 ^ (min 13 IntKind.u64.bits))))).fdiv (2 ^ (min 7 IntKind.u64.bits)))) * 2 ^ (min 17 IntKind.u64.bits))), bXor .u64 (bXor .u64 (bXor .u64 a0 (IntKind.u64.wrap (a0 * 2 ^ (min 13 IntKind.u64.bits)))) (((bXor .u64 a0 (IntKind.u64.wrap (a0 * 2 ^ (min 13 IntKind.u64.bits))))).fdiv (2 ^ (min 7 IntKind.u64.bits)))) (IntKind.u64.wrap ((bXor .u64 (bXor .u64 a0 (IntKind.u64.wrap (a0 * 2 ^ (min 13 IntKind.u64.bits)))) (((bXor .u64 a0 (IntKind.u64.wrap (a0 * 2 ^ (min 13 IntKind.u64.bits))))).fdiv (2 ^ (min 7 IntKind.u64.bits)))) * 2 ^ (min 17 IntKind.u64.bits))))
noncomputable def cmp_Compare_int (a0 : Int) (a1 : Int) : Option (Int) :=
  (cmp_isNaN_int a0).bind fun y1 =>
  (cmp_isNaN_int a1).bind fun y2 =>
  if y1 = true then
    if y2 = true then
      some 0
    else
      some (-1)
  else
  if y2 = true then
    some 1
  else
  if (decide (a0 < a1)) = true then
    some (-1)
  else
  if (decide (a1 < a0)) = true then
    some 1
  else
    some 0
noncomputable def cmp_Or_int_l0 (a0 : List Int) (s2 : Int) : Option (Lp Int (Unit ⊕ Int)) :=
  if (decide (s2 < ((a0).length : Int))) = true then
    (idx a0 s2).bind fun x3 =>
    if (x3 != 0) = true then
      some (.out (.inr x3))
    else
      some (.go (IntKind.i64.wrap (s2 + 1)))
  else
    some (.out (.inl ()))
noncomputable def cmp_Or_int (a0 : List Int) : Option (Int) :=
  (iter (cmp_Or_int_l0 a0) 0).bind fun q5 =>
  match q5 with
  | .inl v1 =>
    some 0
  | .inr r4 =>
    some r4
noncomputable def notice_All_1 (a0 : api_Notice) (a1 : api_Notice) : Option (Int) :=
  (cmp_Compare_int a0.Time a1.Time).bind fun y1 =>
  (cmp_Compare_int a0.Case a1.Case).bind fun y2 =>
  (cmp_Compare_int a0.Step a1.Step).bind fun y3 =>
  (cmp_Or_int [y1, y2, y3]).bind fun y4 =>
  some y4
noncomputable def notice_All_l0 (a3 : List api_Case) (a0 : api_Calendar) (a1 : api_Directory) (a2 : List api_Steward) (a4 : Int) (s8 : Int × (List api_Notice)) : Option (Lp (Int × (List api_Notice)) ((List api_Notice) ⊕ ((List api_Notice) × Int))) :=
  if (decide (s8.1 < ((a3).length : Int))) = true then
    (idx a3 s8.1).bind fun x9 =>
    if (x9.Kind != 1) = true then
      some (.go (IntKind.i64.wrap (s8.1 + 1), s8.2))
    else
    (notice_all a0 a1 a2 a3 s8.1 a4).bind fun y10 =>
    if (y10.2 != 0) = true then
      some (.out (.inr ([], y10.2)))
    else
    (ck ((s8.2).length + (y10.1).length ≤ 268435456)).bind fun _ =>
    some (.go (IntKind.i64.wrap (s8.1 + 1), (s8.2 ++ y10.1)))
  else
    some (.out (.inl s8.2))
noncomputable def notice_All (a0 : api_Calendar) (a1 : api_Directory) (a2 : List api_Steward) (a3 : List api_Case) (a4 : Int) : Option ((List api_Notice) × Int) :=
  (calendar_Check a0).bind fun y1 =>
  (owners_Check a1 a2).bind fun y2 =>
  (notice_Check a1 a3).bind fun y3 =>
  (notice_first [y1, y2, y3]).bind fun y4 =>
  if (y4 != 0) = true then
    some ([], y4)
  else
  (some ((decide (a4 < 0)) || (decide (1099511627776 < a4)))).bind fun v5 =>
  if v5 = true then
    some ([], 2)
  else
  (iter (notice_All_l0 a3 a0 a1 a2 a4) (0, [])).bind fun q12 =>
  match q12 with
  | .inl v6 =>
    (slices_SortFunc_api_Notice_vec0_at_notice_All_1 v6).bind fun y7 =>
    some (y7, 0)
  | .inr r11 =>
    some r11
noncomputable def law41_awake_l0 (y1 : (List api_Notice) × Int) (s4 : Int) : Option (Lp Int (Unit ⊕ Bool)) :=
  if (decide (s4 < ((y1.1).length : Int))) = true then
    (idx y1.1 s4).bind fun x5 =>
    if (!((x5.Time == (IntKind.i64.wrap (5 + s4))) && ((x5.Case == 0) && ((x5.To == 0) && (x5.Step == s4))))) = true then
      some (.out (.inr false))
    else
      some (.go (IntKind.i64.wrap (s4 + 1)))
  else
    some (.out (.inl ()))
noncomputable def law41_awake  : Option (Bool) :=
  (notice_All (⟨1, 0, 1, 127, []⟩ : api_Calendar) (⟨[1], []⟩ : api_Directory) [] [(⟨5, 1, 0, 4, 0⟩ : api_Case)] 50).bind fun y1 =>
  (some ((y1.2 != 0) || (((y1.1).length : Int) != 4))).bind fun v2 =>
  if v2 = true then
    some false
  else
  (iter (law41_awake_l0 y1) 0).bind fun q7 =>
  match q7 with
  | .inl v3 =>
    some true
  | .inr r6 =>
    some r6
noncomputable def make_Tape_Next (a0 : make_Tape) (a1 : Int) : Option (Int × make_Tape) :=
  if (decide (((a0.L).length : Int) ≤ a0.at_)) = true then
    some (0, a0)
  else
  (idx a0.L a0.at_).bind fun x1 =>
  (ck (a1 ≠ 0)).bind fun _ =>
  some (((bAnd .i64 x1 65535)).tmod a1, (⟨a0.L, IntKind.i64.wrap (a0.at_ + 1)⟩ : make_Tape))
noncomputable def make_Tape_Between (a0 : make_Tape) (a1 : Int) (a2 : Int) : Option (Int × make_Tape) :=
  (make_Tape_Next a0 (IntKind.i64.wrap ((IntKind.i64.wrap (a2 - a1)) + 1))).bind fun y1 =>
  some (IntKind.i64.wrap (a1 + y1.1), y1.2)
noncomputable def make_Pick (a0 : make_Tape) (a1 : List Int) : Option (Int × make_Tape) :=
  (make_Tape_Next a0 ((a1).length : Int)).bind fun y1 =>
  (idx a1 y1.1).bind fun x2 =>
  some (x2, y1.2)
noncomputable def make_Few_l0 (a1 : Int) (a2 : Int) (s2 : Int × (List Int) × Int × (List Int)) : Option (Lp (Int × (List Int) × Int × (List Int)) ((List Int) × Int × (List Int))) :=
  if (decide (s2.1 < a1)) = true then
    (make_Tape_Next (⟨s2.2.1, s2.2.2.1⟩ : make_Tape) a2).bind fun y3 =>
    if (y3.1 == (IntKind.i64.wrap (a2 - 1))) = true then
      (ck ((s2.2.2.2).length + ([s2.1]).length ≤ 268435456)).bind fun _ =>
      some (.go (IntKind.i64.wrap (s2.1 + 1), y3.2.L, y3.2.at_, (s2.2.2.2 ++ [s2.1])))
    else
      some (.go (IntKind.i64.wrap (s2.1 + 1), y3.2.L, y3.2.at_, s2.2.2.2))
  else
    some (.out (s2.2.1, s2.2.2.1, s2.2.2.2))
noncomputable def make_Few (a0 : make_Tape) (a1 : Int) (a2 : Int) : Option ((List Int) × make_Tape) :=
  (iter (make_Few_l0 a1 a2) (0, a0.L, a0.at_, [])).bind fun v1 =>
  some (v1.2.2, (⟨v1.1, v1.2.1⟩ : make_Tape))
noncomputable def make_Calendar (a0 : make_Tape) : Option (api_Calendar × make_Tape) :=
  (make_Tape_Between a0 1 12).bind fun y1 =>
  (make_Pick y1.2 [31, 127, 62, 1]).bind fun y2 =>
  (make_Tape_Next y2.2 y1.1).bind fun y3 =>
  (make_Tape_Between y3.2 (IntKind.i64.wrap (y3.1 + 1)) y1.1).bind fun y4 =>
  (make_Few y4.2 12 4).bind fun y5 =>
  some ((⟨y1.1, y3.1, y4.1, y2.1, y5.1⟩ : api_Calendar), y5.2)
noncomputable def make_Clock_l0 (a1 : Int) (s3 : Int × Int × (List Int) × Int × (List Int)) : Option (Lp (Int × Int × (List Int) × Int × (List Int)) ((List Int) × Int × (List Int))) :=
  if (decide (s3.2.1 < a1)) = true then
    (make_Tape_Next (⟨s3.2.2.1, s3.2.2.2.1⟩ : make_Tape) 3).bind fun y4 =>
    (ck ((s3.2.2.2.2).length + ([IntKind.i64.wrap (s3.1 + y4.1)]).length ≤ 268435456)).bind fun _ =>
    some (.go (IntKind.i64.wrap (s3.1 + y4.1), IntKind.i64.wrap (s3.2.1 + 1), y4.2.L, y4.2.at_, (s3.2.2.2.2 ++ [IntKind.i64.wrap (s3.1 + y4.1)])))
  else
    some (.out (s3.2.2.1, s3.2.2.2.1, s3.2.2.2.2))
noncomputable def make_Clock (a0 : make_Tape) (a1 : Int) : Option ((List Int) × make_Tape) :=
  (make_Tape_Next a0 4).bind fun y1 =>
  (iter (make_Clock_l0 a1) (y1.1, 0, y1.2.L, y1.2.at_, [])).bind fun v2 =>
  some (v2.2.2, (⟨v2.1, v2.2.1⟩ : make_Tape))
noncomputable def make_Directory_j3 (y10 : Int × make_Tape) (x12 : Int) (s8 : Int × (List Int) × Int × (List api_Member)) (x9 : Int) (v13 : (List Int) × Int × Int) : Option (Lp (Int × (List Int) × Int × (List api_Member)) ((List Int) × Int × (List api_Member))) :=
  if (y10.1 != x12) = true then
    (ck ((s8.2.2.2).length + ([(⟨x9, v13.2.2, y10.1, x12⟩ : api_Member)]).length ≤ 268435456)).bind fun _ =>
    some (.go (IntKind.i64.wrap (s8.1 + 1), v13.1, v13.2.1, (s8.2.2.2 ++ [(⟨x9, v13.2.2, y10.1, x12⟩ : api_Member)])))
  else
    some (.go (IntKind.i64.wrap (s8.1 + 1), v13.1, v13.2.1, s8.2.2.2))
noncomputable def make_Directory_l2 (y6 : (List Int) × make_Tape) (v3 : (List Int) × Int × (List Int)) (v4 : (List Int)) (s8 : Int × (List Int) × Int × (List api_Member)) : Option (Lp (Int × (List Int) × Int × (List api_Member)) ((List Int) × Int × (List api_Member))) :=
  if (decide (s8.1 < ((y6.1).length : Int))) = true then
    (idx y6.1 s8.1).bind fun x9 =>
    (make_Tape_Next (⟨s8.2.1, s8.2.2.1⟩ : make_Tape) ((v3.2.2).length : Int)).bind fun y10 =>
    (make_Tape_Next y10.2 ((v4).length : Int)).bind fun y11 =>
    (ck (0 ≤ y11.1 ∧ (Int.toNat y11.1) < (v4).length)).bind fun _ =>
    (idx v4 y11.1).bind fun x12 =>
    (make_Tape_Next y11.2 4).bind fun y14 =>
    if (y14.1 == 3) = true then
      make_Directory_j3 y10 x12 s8 x9 (y14.2.L, y14.2.at_, 2)
    else
      make_Directory_j3 y10 x12 s8 x9 (y14.2.L, y14.2.at_, 1)
  else
    some (.out (s8.2.1, s8.2.2.1, s8.2.2.2))
noncomputable def make_Directory_l1 (v3 : (List Int) × Int × (List Int)) (s15 : Int × (List Int)) : Option (Lp (Int × (List Int)) (List Int)) :=
  if (decide (s15.1 < ((v3.2.2).length : Int))) = true then
    (ck (0 ≤ s15.1 ∧ (Int.toNat s15.1) < (v3.2.2).length)).bind fun _ =>
    (idx v3.2.2 s15.1).bind fun x16 =>
    if (x16 == 2) = true then
      (ck ((s15.2).length + ([s15.1]).length ≤ 268435456)).bind fun _ =>
      some (.go (IntKind.i64.wrap (s15.1 + 1), (s15.2 ++ [s15.1])))
    else
      some (.go (IntKind.i64.wrap (s15.1 + 1), s15.2))
  else
    some (.out s15.2)
noncomputable def make_Directory_l0  (s17 : Int × (List Int) × Int × (List Int)) : Option (Lp (Int × (List Int) × Int × (List Int)) ((List Int) × Int × (List Int))) :=
  if (decide (0 < s17.1)) = true then
    (make_Pick (⟨s17.2.1, s17.2.2.1⟩ : make_Tape) [2, 2, 1, 3]).bind fun y18 =>
    (ck ((s17.2.2.2).length + ([y18.1]).length ≤ 268435456)).bind fun _ =>
    some (.go (IntKind.i64.wrap (s17.1 - 1), y18.2.L, y18.2.at_, (s17.2.2.2 ++ [y18.1])))
  else
    some (.out (s17.2.1, s17.2.2.1, s17.2.2.2))
noncomputable def make_Directory (a0 : make_Tape) : Option (api_Directory × make_Tape) :=
  (make_Tape_Between a0 2 6).bind fun y1 =>
  (some ([1] : List Int)).bind fun l2 =>
  (iter (make_Directory_l0) (y1.1, y1.2.L, y1.2.at_, l2)).bind fun v3 =>
  (iter (make_Directory_l1 v3) (0, [])).bind fun v4 =>
  if (((v4).length : Int) == 0) = true then
    some ((⟨v3.2.2, []⟩ : api_Directory), (⟨v3.1, v3.2.1⟩ : make_Tape))
  else
  (make_Tape_Next (⟨v3.1, v3.2.1⟩ : make_Tape) 12).bind fun y5 =>
  (make_Clock y5.2 y5.1).bind fun y6 =>
  (iter (make_Directory_l2 y6 v3 v4) (0, y6.2.L, y6.2.at_, [])).bind fun v7 =>
  some ((⟨v3.2.2, v7.2.2⟩ : api_Directory), (⟨v7.1, v7.2.1⟩ : make_Tape))
noncomputable def make_Stewards_l0 (y2 : (List Int) × make_Tape) (a1 : api_Directory) (s4 : Int × (List Int) × Int × (List api_Steward)) : Option (Lp (Int × (List Int) × Int × (List api_Steward)) ((List Int) × Int × (List api_Steward))) :=
  if (decide (s4.1 < ((y2.1).length : Int))) = true then
    (idx y2.1 s4.1).bind fun x5 =>
    (make_Tape_Next (⟨s4.2.1, s4.2.2.1⟩ : make_Tape) ((a1.Kinds).length : Int)).bind fun y6 =>
    (make_Tape_Between y6.2 (-1) (IntKind.i64.wrap (((a1.Kinds).length : Int) - 1))).bind fun y7 =>
    if (y6.1 != y7.1) = true then
      (ck ((s4.2.2.2).length + ([(⟨x5, y6.1, y7.1⟩ : api_Steward)]).length ≤ 268435456)).bind fun _ =>
      some (.go (IntKind.i64.wrap (s4.1 + 1), y7.2.L, y7.2.at_, (s4.2.2.2 ++ [(⟨x5, y6.1, y7.1⟩ : api_Steward)])))
    else
      some (.go (IntKind.i64.wrap (s4.1 + 1), y7.2.L, y7.2.at_, s4.2.2.2))
  else
    some (.out (s4.2.1, s4.2.2.1, s4.2.2.2))
noncomputable def make_Stewards (a0 : make_Tape) (a1 : api_Directory) : Option ((List api_Steward) × make_Tape) :=
  (make_Tape_Next a0 10).bind fun y1 =>
  (make_Clock y1.2 y1.1).bind fun y2 =>
  (iter (make_Stewards_l0 y2 a1) (0, y2.2.L, y2.2.at_, [])).bind fun v3 =>
  some (v3.2.2, (⟨v3.1, v3.2.1⟩ : make_Tape))
noncomputable def make_Cases_l1  (s5 : Int × (List api_Case)) : Option (Lp (Int × (List api_Case)) (List api_Case)) :=
  if (decide (s5.1 < ((s5.2).length : Int))) = true then
    (ck (0 ≤ s5.1 ∧ (Int.toNat s5.1) < (s5.2).length)).bind fun _ =>
    (idx s5.2 s5.1).bind fun x6 =>
    (ck (0 ≤ IntKind.i64.wrap (s5.1 - 1) ∧ (Int.toNat (IntKind.i64.wrap (s5.1 - 1))) < (s5.2).length)).bind fun _ =>
    (idx s5.2 (IntKind.i64.wrap (s5.1 - 1))).bind fun x7 =>
    (ck (0 ≤ s5.1 ∧ (Int.toNat s5.1) < (s5.2).length)).bind fun _ =>
    some (.go (IntKind.i64.wrap (s5.1 + 1), (s5.2.set (Int.toNat s5.1) (⟨(if x7.Time > x6.Time then x7.Time else x6.Time), x6.Kind, x6.Case, x6.Level, x6.Owner⟩ : api_Case))))
  else
    some (.out s5.2)
noncomputable def make_Cases_l0 (y2 : (List Int) × make_Tape) (a1 : api_Directory) (s8 : Int × (List Int) × Int × (List api_Case) × (List Int)) : Option (Lp (Int × (List Int) × Int × (List api_Case) × (List Int)) ((List Int) × Int × (List api_Case))) :=
  if (decide (s8.1 < ((y2.1).length : Int))) = true then
    (idx y2.1 s8.1).bind fun x9 =>
    Option.bind (
      if (decide (((s8.2.2.2.2).length : Int) < 3)) = true then
        if (((s8.2.2.2.2).length : Int) == 0) = true then
          some (true, s8.2.1, s8.2.2.1)
        else
        (make_Tape_Next (⟨s8.2.1, s8.2.2.1⟩ : make_Tape) 2).bind fun y22 =>
        some ((y22.1 == 0), y22.2.L, y22.2.at_)
      else
        some (false, s8.2.1, s8.2.2.1)) fun v10 =>
    if v10.1 = true then
      (make_Tape_Between (⟨v10.2.1, v10.2.2⟩ : make_Tape) 2 4).bind fun y11 =>
      (make_Tape_Next y11.2 ((a1.Kinds).length : Int)).bind fun y12 =>
      (ck ((s8.2.2.2.1).length + ([(⟨x9, 1, ((s8.2.2.2.2).length : Int), y11.1, y12.1⟩ : api_Case)]).length ≤ 268435456)).bind fun _ =>
      (ck ((s8.2.2.2.2).length + ([((s8.2.2.2.2).length : Int)]).length ≤ 268435456)).bind fun _ =>
      some (.go (IntKind.i64.wrap (s8.1 + 1), y12.2.L, y12.2.at_, (s8.2.2.2.1 ++ [(⟨x9, 1, ((s8.2.2.2.2).length : Int), y11.1, y12.1⟩ : api_Case)]), (s8.2.2.2.2 ++ [((s8.2.2.2.2).length : Int)])))
    else
    (make_Tape_Next (⟨v10.2.1, v10.2.2⟩ : make_Tape) 2).bind fun y13 =>
    (make_Tape_Between y13.2 2 3).bind fun y14 =>
    (make_Tape_Next y14.2 ((s8.2.2.2.2).length : Int)).bind fun y15 =>
    (ck (0 ≤ y15.1 ∧ (Int.toNat y15.1) < (s8.2.2.2.2).length)).bind fun _ =>
    (idx s8.2.2.2.2 y15.1).bind fun x16 =>
    (ck ((s8.2.2.2.1).length + ([(⟨IntKind.i64.wrap (x9 + y13.1), y14.1, x16, 0, 0⟩ : api_Case)]).length ≤ 268435456)).bind fun _ =>
    Option.bind (
      if (decide (1 < (((s8.2.2.2.1 ++ [(⟨IntKind.i64.wrap (x9 + y13.1), y14.1, x16, 0, 0⟩ : api_Case)])).length : Int))) = true then
        (ck (0 ≤ IntKind.i64.wrap ((((s8.2.2.2.1 ++ [(⟨IntKind.i64.wrap (x9 + y13.1), y14.1, x16, 0, 0⟩ : api_Case)])).length : Int) - 1) ∧ (Int.toNat (IntKind.i64.wrap ((((s8.2.2.2.1 ++ [(⟨IntKind.i64.wrap (x9 + y13.1), y14.1, x16, 0, 0⟩ : api_Case)])).length : Int) - 1))) < ((s8.2.2.2.1 ++ [(⟨IntKind.i64.wrap (x9 + y13.1), y14.1, x16, 0, 0⟩ : api_Case)])).length)).bind fun _ =>
        (idx (s8.2.2.2.1 ++ [(⟨IntKind.i64.wrap (x9 + y13.1), y14.1, x16, 0, 0⟩ : api_Case)]) (IntKind.i64.wrap ((((s8.2.2.2.1 ++ [(⟨IntKind.i64.wrap (x9 + y13.1), y14.1, x16, 0, 0⟩ : api_Case)])).length : Int) - 1))).bind fun x20 =>
        (ck (0 ≤ IntKind.i64.wrap ((((s8.2.2.2.1 ++ [(⟨IntKind.i64.wrap (x9 + y13.1), y14.1, x16, 0, 0⟩ : api_Case)])).length : Int) - 2) ∧ (Int.toNat (IntKind.i64.wrap ((((s8.2.2.2.1 ++ [(⟨IntKind.i64.wrap (x9 + y13.1), y14.1, x16, 0, 0⟩ : api_Case)])).length : Int) - 2))) < ((s8.2.2.2.1 ++ [(⟨IntKind.i64.wrap (x9 + y13.1), y14.1, x16, 0, 0⟩ : api_Case)])).length)).bind fun _ =>
        (idx (s8.2.2.2.1 ++ [(⟨IntKind.i64.wrap (x9 + y13.1), y14.1, x16, 0, 0⟩ : api_Case)]) (IntKind.i64.wrap ((((s8.2.2.2.1 ++ [(⟨IntKind.i64.wrap (x9 + y13.1), y14.1, x16, 0, 0⟩ : api_Case)])).length : Int) - 2))).bind fun x21 =>
        some (decide (x20.Time < x21.Time))
      else
        some false) fun v17 =>
    if v17 = true then
      (ck (0 ≤ IntKind.i64.wrap ((((s8.2.2.2.1 ++ [(⟨IntKind.i64.wrap (x9 + y13.1), y14.1, x16, 0, 0⟩ : api_Case)])).length : Int) - 2) ∧ (Int.toNat (IntKind.i64.wrap ((((s8.2.2.2.1 ++ [(⟨IntKind.i64.wrap (x9 + y13.1), y14.1, x16, 0, 0⟩ : api_Case)])).length : Int) - 2))) < ((s8.2.2.2.1 ++ [(⟨IntKind.i64.wrap (x9 + y13.1), y14.1, x16, 0, 0⟩ : api_Case)])).length)).bind fun _ =>
      (idx (s8.2.2.2.1 ++ [(⟨IntKind.i64.wrap (x9 + y13.1), y14.1, x16, 0, 0⟩ : api_Case)]) (IntKind.i64.wrap ((((s8.2.2.2.1 ++ [(⟨IntKind.i64.wrap (x9 + y13.1), y14.1, x16, 0, 0⟩ : api_Case)])).length : Int) - 2))).bind fun x18 =>
      (ck (0 ≤ IntKind.i64.wrap ((((s8.2.2.2.1 ++ [(⟨IntKind.i64.wrap (x9 + y13.1), y14.1, x16, 0, 0⟩ : api_Case)])).length : Int) - 1) ∧ (Int.toNat (IntKind.i64.wrap ((((s8.2.2.2.1 ++ [(⟨IntKind.i64.wrap (x9 + y13.1), y14.1, x16, 0, 0⟩ : api_Case)])).length : Int) - 1))) < ((s8.2.2.2.1 ++ [(⟨IntKind.i64.wrap (x9 + y13.1), y14.1, x16, 0, 0⟩ : api_Case)])).length)).bind fun _ =>
      (idx (s8.2.2.2.1 ++ [(⟨IntKind.i64.wrap (x9 + y13.1), y14.1, x16, 0, 0⟩ : api_Case)]) (IntKind.i64.wrap ((((s8.2.2.2.1 ++ [(⟨IntKind.i64.wrap (x9 + y13.1), y14.1, x16, 0, 0⟩ : api_Case)])).length : Int) - 1))).bind fun x19 =>
      some (.go (IntKind.i64.wrap (s8.1 + 1), y15.2.L, y15.2.at_, ((s8.2.2.2.1 ++ [(⟨IntKind.i64.wrap (x9 + y13.1), y14.1, x16, 0, 0⟩ : api_Case)]).set (Int.toNat (IntKind.i64.wrap ((((s8.2.2.2.1 ++ [(⟨IntKind.i64.wrap (x9 + y13.1), y14.1, x16, 0, 0⟩ : api_Case)])).length : Int) - 1))) (⟨x18.Time, x19.Kind, x19.Case, x19.Level, x19.Owner⟩ : api_Case)), s8.2.2.2.2))
    else
      some (.go (IntKind.i64.wrap (s8.1 + 1), y15.2.L, y15.2.at_, (s8.2.2.2.1 ++ [(⟨IntKind.i64.wrap (x9 + y13.1), y14.1, x16, 0, 0⟩ : api_Case)]), s8.2.2.2.2))
  else
    some (.out (s8.2.1, s8.2.2.1, s8.2.2.2.1))
noncomputable def make_Cases (a0 : make_Tape) (a1 : api_Directory) : Option ((List api_Case) × make_Tape) :=
  (make_Tape_Next a0 8).bind fun y1 =>
  (make_Clock y1.2 y1.1).bind fun y2 =>
  (iter (make_Cases_l0 y2 a1) (0, y2.2.L, y2.2.at_, [], [])).bind fun v3 =>
  (iter (make_Cases_l1) (1, v3.2.2)).bind fun v4 =>
  some (v4, (⟨v3.1, v3.2.1⟩ : make_Tape))
noncomputable def ref41_Deadline (a0 : Int) : Option (Int) :=
  if (a0 == 1) = true then
    some 40
  else
  if (a0 == 2) = true then
    some 16
  else
  if (a0 == 3) = true then
    some 4
  else
  if (a0 == 4) = true then
    some 1
  else
    some 0
noncomputable def ref23_in (a0 : Int) (a1 : Int) (a2 : Int) : Option (Bool) :=
  (some ((decide (a1 ≤ a0)) && (decide (a0 ≤ a2)))).bind fun v1 =>
  some v1
noncomputable def ref23_Exists (a0 : api_Directory) (a1 : Int) : Option (Bool) :=
  (ref23_in a1 0 (IntKind.i64.wrap (((a0.Kinds).length : Int) - 1))).bind fun y1 =>
  some y1
noncomputable def ref23_Group (a0 : api_Directory) (a1 : Int) : Option (Bool) :=
  Option.bind (
    (ref23_Exists a0 a1).bind fun y2 =>
    if y2 = true then
      (idx a0.Kinds a1).bind fun x3 =>
      some (x3 == 2)
    else
      some false) fun v1 =>
  some v1
noncomputable def ref23_Valid_l1 (a0 : api_Directory) (s4 : Int) : Option (Lp Int (Unit ⊕ Bool)) :=
  if (decide (s4 < ((a0.Events).length : Int))) = true then
    (idx a0.Events s4).bind fun x5 =>
    Option.bind (
      (ref23_in x5.Kind 1 2).bind fun y7 =>
      if (!y7) = true then
        some true
      else
      (ref23_in x5.Time 0 1099511627776).bind fun y8 =>
      if (!y8) = true then
        some true
      else
      if (decide (0 < s4)) = true then
        (idx a0.Events (IntKind.i64.wrap (s4 - 1))).bind fun x9 =>
        if (decide (x5.Time < x9.Time)) = true then
          some true
        else
        (ref23_Exists a0 x5.Principal).bind fun y10 =>
        if (!y10) = true then
          some true
        else
        (ref23_Group a0 x5.Group).bind fun y11 =>
        if (!y11) = true then
          some true
        else
          some (x5.Principal == x5.Group)
      else
      (ref23_Exists a0 x5.Principal).bind fun y12 =>
      if (!y12) = true then
        some true
      else
      (ref23_Group a0 x5.Group).bind fun y13 =>
      if (!y13) = true then
        some true
      else
        some (x5.Principal == x5.Group)) fun v6 =>
    if v6 = true then
      some (.out (.inr false))
    else
      some (.go (IntKind.i64.wrap (s4 + 1)))
  else
    some (.out (.inl ()))
noncomputable def ref23_Valid_l0 (a0 : api_Directory) (s16 : Int) : Option (Lp Int (Unit ⊕ Bool)) :=
  if (decide (s16 < ((a0.Kinds).length : Int))) = true then
    (idx a0.Kinds s16).bind fun x17 =>
    (ref23_in x17 1 3).bind fun y18 =>
    if (!y18) = true then
      some (.out (.inr false))
    else
      some (.go (IntKind.i64.wrap (s16 + 1)))
  else
    some (.out (.inl ()))
noncomputable def ref23_Valid (a0 : api_Directory) : Option (Bool) :=
  (some ((decide (24 < ((a0.Kinds).length : Int))) || (decide (120 < ((a0.Events).length : Int))))).bind fun v1 =>
  if v1 = true then
    some false
  else
  (iter (ref23_Valid_l0 a0) 0).bind fun q20 =>
  match q20 with
  | .inl v2 =>
    (iter (ref23_Valid_l1 a0) 0).bind fun q15 =>
    match q15 with
    | .inl v3 =>
      some true
    | .inr r14 =>
      some r14
  | .inr r19 =>
    some r19
noncomputable def ref41_in (a0 : Int) (a1 : Int) (a2 : Int) : Option (Bool) :=
  (some ((decide (a1 ≤ a0)) && (decide (a0 ≤ a2)))).bind fun v1 =>
  some v1
noncomputable def ref41_Check_l0 (a1 : List api_Case) (a0 : api_Directory) (s3 : Int × (List Bool)) : Option (Lp (Int × (List Bool)) (Unit ⊕ Int)) :=
  if (decide (s3.1 < ((a1).length : Int))) = true then
    (idx a1 s3.1).bind fun x4 =>
    Option.bind (
      (ref41_in x4.Time 0 1099511627776).bind fun y12 =>
      if (!y12) = true then
        some true
      else
      if (decide (0 < s3.1)) = true then
        (idx a1 (IntKind.i64.wrap (s3.1 - 1))).bind fun x13 =>
        if (decide (x4.Time < x13.Time)) = true then
          some true
        else
        (ref41_in x4.Case 0 15).bind fun y14 =>
        if (!y14) = true then
          some true
        else
        (ref41_in x4.Kind 1 3).bind fun y15 =>
        some (!y15)
      else
      (ref41_in x4.Case 0 15).bind fun y16 =>
      if (!y16) = true then
        some true
      else
      (ref41_in x4.Kind 1 3).bind fun y17 =>
      some (!y17)) fun v5 =>
    if v5 = true then
      some (.out (.inr 43))
    else
    if (x4.Kind == 1) = true then
      Option.bind (
        (ck (0 ≤ x4.Case ∧ x4.Case < 16)).bind fun _ =>
        (idx s3.2 x4.Case).bind fun x7 =>
        if x7 = true then
          some true
        else
        (ref41_in x4.Level 1 4).bind fun y8 =>
        if (!y8) = true then
          some true
        else
        (ref23_Exists a0 x4.Owner).bind fun y9 =>
        some (!y9)) fun v6 =>
      if v6 = true then
        some (.out (.inr 43))
      else
      (ck (0 ≤ x4.Case ∧ x4.Case < 16)).bind fun _ =>
      (ck ((Int.toNat x4.Case) < (s3.2).length)).bind fun _ =>
      some (.go (IntKind.i64.wrap (s3.1 + 1), (s3.2.set (Int.toNat x4.Case) true)))
    else
    Option.bind (
      (ck (0 ≤ x4.Case ∧ x4.Case < 16)).bind fun _ =>
      (idx s3.2 x4.Case).bind fun x11 =>
      if (!x11) = true then
        some true
      else
      if (x4.Level != 0) = true then
        some true
      else
        some (x4.Owner != 0)) fun v10 =>
    if v10 = true then
      some (.out (.inr 43))
    else
      some (.go (IntKind.i64.wrap (s3.1 + 1), s3.2))
  else
    some (.out (.inl ()))
noncomputable def ref41_Check (a0 : api_Directory) (a1 : List api_Case) : Option (Int) :=
  (ref23_Valid a0).bind fun y1 =>
  if (!y1) = true then
    some 30
  else
  if (decide (100 < ((a1).length : Int))) = true then
    some 43
  else
  (iter (ref41_Check_l0 a1 a0) (0, (zerosB 16))).bind fun q19 =>
  match q19 with
  | .inl v2 =>
    some 0
  | .inr r18 =>
    some r18
noncomputable def ref40_in (a0 : Int) (a1 : Int) (a2 : Int) : Option (Bool) :=
  (some ((decide (a1 ≤ a0)) && (decide (a0 ≤ a2)))).bind fun v1 =>
  some v1
noncomputable def ref40_Valid_l0 (a0 : api_Calendar) (s3 : Int) : Option (Lp Int (Unit ⊕ Bool)) :=
  if (decide (s3 < ((a0.Holidays).length : Int))) = true then
    (idx a0.Holidays s3).bind fun x4 =>
    Option.bind (
      if (decide (x4 < 0)) = true then
        some true
      else
      if (decide (0 < s3)) = true then
        (idx a0.Holidays (IntKind.i64.wrap (s3 - 1))).bind fun x6 =>
        some (decide (x4 ≤ x6))
      else
        some false) fun v5 =>
    if v5 = true then
      some (.out (.inr false))
    else
      some (.go (IntKind.i64.wrap (s3 + 1)))
  else
    some (.out (.inl ()))
noncomputable def ref40_Valid (a0 : api_Calendar) : Option (Bool) :=
  Option.bind (
    (ref40_in a0.Day 1 48).bind fun y9 =>
    if (!y9) = true then
      some true
    else
    if (decide (a0.From < 0)) = true then
      some true
    else
    if (decide (a0.To ≤ a0.From)) = true then
      some true
    else
    if (decide (a0.Day < a0.To)) = true then
      some true
    else
    (ref40_in a0.Week 0 127).bind fun y10 =>
    if (!y10) = true then
      some true
    else
      some (decide (40 < ((a0.Holidays).length : Int)))) fun v1 =>
  if v1 = true then
    some false
  else
  (iter (ref40_Valid_l0 a0) 0).bind fun q8 =>
  match q8 with
  | .inl v2 =>
    some true
  | .inr r7 =>
    some r7
noncomputable def ref26_Check_l0 (a1 : List api_Steward) (a0 : api_Directory) (s3 : Int) : Option (Lp Int (Unit ⊕ Int)) :=
  if (decide (s3 < ((a1).length : Int))) = true then
    (idx a1 s3).bind fun x4 =>
    Option.bind (
      if (decide (x4.Time < 0)) = true then
        some true
      else
      if (decide (1099511627776 < x4.Time)) = true then
        some true
      else
      if (decide (0 < s3)) = true then
        (idx a1 (IntKind.i64.wrap (s3 - 1))).bind fun x6 =>
        if (decide (x4.Time < x6.Time)) = true then
          some true
        else
        (ref23_Exists a0 x4.Subject).bind fun y7 =>
        if (!y7) = true then
          some true
        else
        if (x4.Steward != (-1)) = true then
          (ref23_Exists a0 x4.Steward).bind fun y8 =>
          if (!y8) = true then
            some true
          else
            some (x4.Steward == x4.Subject)
        else
          some (x4.Steward == x4.Subject)
      else
      (ref23_Exists a0 x4.Subject).bind fun y9 =>
      if (!y9) = true then
        some true
      else
      if (x4.Steward != (-1)) = true then
        (ref23_Exists a0 x4.Steward).bind fun y10 =>
        if (!y10) = true then
          some true
        else
          some (x4.Steward == x4.Subject)
      else
        some (x4.Steward == x4.Subject)) fun v5 =>
    if v5 = true then
      some (.out (.inr 33))
    else
      some (.go (IntKind.i64.wrap (s3 + 1)))
  else
    some (.out (.inl ()))
noncomputable def ref26_Check (a0 : api_Directory) (a1 : List api_Steward) : Option (Int) :=
  (ref23_Valid a0).bind fun y1 =>
  if (!y1) = true then
    some 30
  else
  if (decide (120 < ((a1).length : Int))) = true then
    some 33
  else
  (iter (ref26_Check_l0 a1 a0) 0).bind fun q12 =>
  match q12 with
  | .inl v2 =>
    some 0
  | .inr r11 =>
    some r11
noncomputable def ref41_check (a0 : api_Calendar) (a1 : api_Directory) (a2 : List api_Steward) (a3 : List api_Case) (a4 : Int) : Option (Int) :=
  (ref40_Valid a0).bind fun y1 =>
  if (!y1) = true then
    some 42
  else
  (ref26_Check a1 a2).bind fun y2 =>
  if (y2 != 0) = true then
    some y2
  else
  (ref41_Check a1 a3).bind fun y3 =>
  if (y3 != 0) = true then
    some y3
  else
  (ref41_in a4 0 1099511627776).bind fun y4 =>
  if (!y4) = true then
    some 2
  else
    some 0
noncomputable def ref23_Has_l0 (a0 : List Int) (a1 : Int) (s2 : Int) : Option (Lp Int (Unit ⊕ Bool)) :=
  if (decide (s2 < ((a0).length : Int))) = true then
    (idx a0 s2).bind fun x3 =>
    if (x3 == a1) = true then
      some (.out (.inr true))
    else
      some (.go (IntKind.i64.wrap (s2 + 1)))
  else
    some (.out (.inl ()))
noncomputable def ref23_Has (a0 : List Int) (a1 : Int) : Option (Bool) :=
  (iter (ref23_Has_l0 a0 a1) 0).bind fun q5 =>
  match q5 with
  | .inl v1 =>
    some false
  | .inr r4 =>
    some r4
noncomputable def ref26_of_l0 (a0 : List api_Steward) (a2 : Int) (a1 : Int) (s2 : Int × Int) : Option (Lp (Int × Int) Int) :=
  if (decide (s2.2 < ((a0).length : Int))) = true then
    (idx a0 s2.2).bind fun x3 =>
    (some ((decide (x3.Time ≤ a2)) && (x3.Subject == a1))).bind fun v4 =>
    if v4 = true then
      some (.go (x3.Steward, IntKind.i64.wrap (s2.2 + 1)))
    else
      some (.go (s2.1, IntKind.i64.wrap (s2.2 + 1)))
  else
    some (.out s2.1)
noncomputable def ref26_of (a0 : List api_Steward) (a1 : Int) (a2 : Int) : Option (Int) :=
  (iter (ref26_of_l0 a0 a2 a1) ((-1), 0)).bind fun v1 =>
  some v1
noncomputable def ref26_Way_l0 (a1 : List api_Steward) (a3 : Int) (s3 : Int × (List Int)) : Option (Lp (Int × (List Int)) (List Int)) :=
  Option.bind (
    if (s3.1 != (-1)) = true then
      (ref23_Has s3.2 s3.1).bind fun y6 =>
      some (!y6)
    else
      some false) fun v4 =>
  if v4 = true then
    (ck ((s3.2).length + ([s3.1]).length ≤ 268435456)).bind fun _ =>
    (ref26_of a1 s3.1 a3).bind fun y5 =>
    some (.go (y5, (s3.2 ++ [s3.1])))
  else
    some (.out s3.2)
noncomputable def ref26_Way (a0 : api_Directory) (a1 : List api_Steward) (a2 : Int) (a3 : Int) : Option ((List Int)) :=
  Option.bind (
    (ref26_Check a0 a1).bind fun y7 =>
    if (y7 != 0) = true then
      some true
    else
    (ref23_Exists a0 a2).bind fun y8 =>
    some (!y8)) fun v1 =>
  if v1 = true then
    some []
  else
  (iter (ref26_Way_l0 a1 a3) (a2, [])).bind fun v2 =>
  some v2
noncomputable def ref41_before (a0 : api_Notice) (a1 : api_Notice) : Option (Bool) :=
  if (a0.Time != a1.Time) = true then
    some (decide (a0.Time < a1.Time))
  else
  if (a0.Case != a1.Case) = true then
    some (decide (a0.Case < a1.Case))
  else
    some (decide (a0.Step < a1.Step))
noncomputable def ref40_working_l0 (a0 : api_Calendar) (a1 : Int) (s3 : Int) : Option (Lp Int (Unit ⊕ Bool)) :=
  if (decide (s3 < ((a0.Holidays).length : Int))) = true then
    (idx a0.Holidays s3).bind fun x4 =>
    if (x4 == (IntKind.i64.wrap ((a1).tdiv a0.Day))) = true then
      some (.out (.inr false))
    else
      some (.go (IntKind.i64.wrap (s3 + 1)))
  else
    some (.out (.inl ()))
noncomputable def ref40_working (a0 : api_Calendar) (a1 : Int) : Option (Bool) :=
  (ck (a0.Day ≠ 0)).bind fun _ =>
  (ck (a0.Day ≠ 0)).bind fun _ =>
  Option.bind (
    if (decide (((a1).tmod a0.Day) < a0.From)) = true then
      some true
    else
    if (decide (a0.To ≤ ((a1).tmod a0.Day))) = true then
      some true
    else
    (ck (¬ (((IntKind.i64.wrap ((a1).tdiv a0.Day))).tmod 7) < 0)).bind fun _ =>
    some ((bAnd .i64 ((a0.Week).fdiv (2 ^ (min (Int.toNat (((IntKind.i64.wrap ((a1).tdiv a0.Day))).tmod 7)) IntKind.i64.bits))) 1) == 0)) fun v1 =>
  if v1 = true then
    some false
  else
  (iter (ref40_working_l0 a0 a1) 0).bind fun q6 =>
  match q6 with
  | .inl v2 =>
    some true
  | .inr r5 =>
    some r5
noncomputable def ref40_Add_l0 (a1 : Int) (a0 : api_Calendar) (s4 : Int × Int) : Option (Lp (Int × Int) (Int ⊕ (Int × Int))) :=
  if (decide (0 < s4.1)) = true then
    (some ((decide ((IntKind.i64.wrap (a1 + 100000)) ≤ s4.2)) || (decide (1099511627776 ≤ s4.2)))).bind fun v5 =>
    if v5 = true then
      some (.out (.inr (0, 41)))
    else
    (ref40_working a0 s4.2).bind fun y6 =>
    if y6 = true then
      some (.go (IntKind.i64.wrap (s4.1 - 1), IntKind.i64.wrap (s4.2 + 1)))
    else
      some (.go (s4.1, IntKind.i64.wrap (s4.2 + 1)))
  else
    some (.out (.inl s4.2))
noncomputable def ref40_Add (a0 : api_Calendar) (a1 : Int) (a2 : Int) : Option (Int × Int) :=
  (ref40_Valid a0).bind fun y1 =>
  if (!y1) = true then
    some (0, 42)
  else
  Option.bind (
    (ref40_in a1 0 1099511627776).bind fun y9 =>
    if (!y9) = true then
      some true
    else
    (ref40_in a2 0 1000).bind fun y10 =>
    some (!y10)) fun v2 =>
  if v2 = true then
    some (0, 2)
  else
  (iter (ref40_Add_l0 a1 a0) (a2, a1)).bind fun q8 =>
  match q8 with
  | .inl v3 =>
    some (v3, 0)
  | .inr r7 =>
    some r7
noncomputable def ref41_answered_l0 (a0 : List api_Case) (a1 : Int) (a2 : Int) (s2 : Int) : Option (Lp Int (Unit ⊕ Bool)) :=
  if (decide (s2 < ((((a0).drop (Int.toNat (IntKind.i64.wrap (a1 + 1))))).length : Int))) = true then
    (idx ((a0).drop (Int.toNat (IntKind.i64.wrap (a1 + 1)))) s2).bind fun x3 =>
    Option.bind (
      (idx a0 a1).bind fun x5 =>
      if (x3.Case == x5.Case) = true then
        some (decide (x3.Time ≤ a2))
      else
        some false) fun v4 =>
    if v4 = true then
      some (.out (.inr true))
    else
      some (.go (IntKind.i64.wrap (s2 + 1)))
  else
    some (.out (.inl ()))
noncomputable def ref41_answered (a0 : List api_Case) (a1 : Int) (a2 : Int) : Option (Bool) :=
  (ck (0 ≤ IntKind.i64.wrap (a1 + 1) ∧ IntKind.i64.wrap (a1 + 1) ≤ ((a0).length : Int) ∧ ((a0).length : Int) ≤ ((a0).length : Int))).bind fun _ =>
  (iter (ref41_answered_l0 a0 a1 a2) 0).bind fun q7 =>
  match q7 with
  | .inl v1 =>
    some false
  | .inr r6 =>
    some r6
noncomputable def ref41_All_l2 (s6 : Int × Int × (List api_Notice)) (x4 : api_Case) (x9 : Int) (s14 : Int) : Option (Lp Int Int) :=
  Option.bind (
    if (decide (s14 < ((s6.2.2).length : Int))) = true then
      (ck (0 ≤ s14 ∧ (Int.toNat s14) < (s6.2.2).length)).bind fun _ =>
      (idx s6.2.2 s14).bind fun x16 =>
      (ref41_before x16 (⟨s6.1, x4.Case, x9, s6.2.1⟩ : api_Notice)).bind fun y17 =>
      some y17
    else
      some false) fun v15 =>
  if v15 = true then
    some (.go (IntKind.i64.wrap (s14 + 1)))
  else
    some (.out s14)
noncomputable def ref41_All_l1 (a4 : Int) (a1 : api_Directory) (a2 : List api_Steward) (x4 : api_Case) (a0 : api_Calendar) (a3 : List api_Case) (s3 : Int × (List api_Notice)) (s6 : Int × Int × (List api_Notice)) : Option (Lp (Int × Int × (List api_Notice)) ((List api_Notice) ⊕ ((List api_Notice) × Int))) :=
  (some ((decide (s6.2.1 ≤ 3)) && (decide (s6.1 ≤ a4)))).bind fun v7 =>
  if v7 = true then
    (ref26_Way a1 a2 x4.Owner s6.1).bind fun y8 =>
    (idx y8 (if (IntKind.i64.wrap (((y8).length : Int) - 1)) < s6.2.1 then (IntKind.i64.wrap (((y8).length : Int) - 1)) else s6.2.1)).bind fun x9 =>
    (iter (ref41_All_l2 s6 x4 x9) 0).bind fun v10 =>
    (ck (0 ≤ 0 ∧ 0 ≤ v10 ∧ v10 ≤ (((s6.2.2).length : Nat) : Int))).bind fun _ =>
    (ck (0 ≤ v10 ∧ v10 ≤ (((s6.2.2).length : Nat) : Int) ∧ (((s6.2.2).length : Nat) : Int) ≤ (((s6.2.2).length : Nat) : Int))).bind fun _ =>
    (ck ((Int.toNat v10) + ((s6.2.2).length - (Int.toNat v10)) ≤ (s6.2.2).length)).bind fun _ =>
    (ck (([(⟨s6.1, x4.Case, x9, s6.2.1⟩ : api_Notice)]).length + (((((s6.2.2).drop (Int.toNat v10))).take ((s6.2.2).length - (Int.toNat v10)))).length ≤ 268435456)).bind fun _ =>
    (ck ((Int.toNat v10) ≤ (s6.2.2).length)).bind fun _ =>
    (ck ((Int.toNat v10) + (([(⟨s6.1, x4.Case, x9, s6.2.1⟩ : api_Notice)] ++ ((((s6.2.2).drop (Int.toNat v10))).take ((s6.2.2).length - (Int.toNat v10))))).length ≤ 268435456)).bind fun _ =>
    if (s6.2.1 == 3) = true then
      some (.out (.inl (((s6.2.2).take (Int.toNat v10)) ++ ([(⟨s6.1, x4.Case, x9, s6.2.1⟩ : api_Notice)] ++ ((((s6.2.2).drop (Int.toNat v10))).take ((s6.2.2).length - (Int.toNat v10)))))))
    else
    (ref41_Deadline x4.Level).bind fun y11 =>
    (ref40_Add a0 s6.1 y11).bind fun y12 =>
    if (y12.2 != 0) = true then
      some (.out (.inr ([], y12.2)))
    else
    (ref41_answered a3 s3.1 y12.1).bind fun y13 =>
    if y13 = true then
      some (.out (.inl (((s6.2.2).take (Int.toNat v10)) ++ ([(⟨s6.1, x4.Case, x9, s6.2.1⟩ : api_Notice)] ++ ((((s6.2.2).drop (Int.toNat v10))).take ((s6.2.2).length - (Int.toNat v10)))))))
    else
      some (.go (y12.1, IntKind.i64.wrap (s6.2.1 + 1), (((s6.2.2).take (Int.toNat v10)) ++ ([(⟨s6.1, x4.Case, x9, s6.2.1⟩ : api_Notice)] ++ ((((s6.2.2).drop (Int.toNat v10))).take ((s6.2.2).length - (Int.toNat v10)))))))
  else
    some (.out (.inl s6.2.2))
noncomputable def ref41_All_l0 (a3 : List api_Case) (a4 : Int) (a1 : api_Directory) (a2 : List api_Steward) (a0 : api_Calendar) (s3 : Int × (List api_Notice)) : Option (Lp (Int × (List api_Notice)) ((List api_Notice) ⊕ ((List api_Notice) × Int))) :=
  if (decide (s3.1 < ((a3).length : Int))) = true then
    (idx a3 s3.1).bind fun x4 =>
    if (x4.Kind != 1) = true then
      some (.go (IntKind.i64.wrap (s3.1 + 1), s3.2))
    else
    (iter (ref41_All_l1 a4 a1 a2 x4 a0 a3 s3) (x4.Time, 0, s3.2)).bind fun q19 =>
    match q19 with
    | .inl v5 =>
      some (.go (IntKind.i64.wrap (s3.1 + 1), v5))
    | .inr r18 =>
      some (.out (.inr r18))
  else
    some (.out (.inl s3.2))
noncomputable def ref41_All (a0 : api_Calendar) (a1 : api_Directory) (a2 : List api_Steward) (a3 : List api_Case) (a4 : Int) : Option ((List api_Notice) × Int) :=
  (ref41_check a0 a1 a2 a3 a4).bind fun y1 =>
  if (y1 != 0) = true then
    some ([], y1)
  else
  (iter (ref41_All_l0 a3 a4 a1 a2 a0) (0, [])).bind fun q21 =>
  match q21 with
  | .inl v2 =>
    some (v2, 0)
  | .inr r20 =>
    some r20
noncomputable def slices_order2Ordered_int (a0 : List Int) (a1 : Int) (a2 : Int) (a3 : Int) : Option (Int × Int × Int) :=
  (idx a0 a2).bind fun x1 =>
  (idx a0 a1).bind fun x2 =>
  (cmp_Less_int x1 x2).bind fun y3 =>
  if y3 = true then
    some (a2, a1, IntKind.i64.wrap (a3 + 1))
  else
    some (a1, a2, a3)
noncomputable def slices_medianOrdered_int (a0 : List Int) (a1 : Int) (a2 : Int) (a3 : Int) (a4 : Int) : Option (Int × Int) :=
  (slices_order2Ordered_int a0 a1 a2 a4).bind fun y1 =>
  (slices_order2Ordered_int a0 y1.2.1 a3 y1.2.2).bind fun y2 =>
  (slices_order2Ordered_int a0 y1.1 y2.1 y2.2.2).bind fun y3 =>
  some (y3.2.1, y3.2.2)
noncomputable def slices_medianAdjacentOrdered_int (a0 : List Int) (a1 : Int) (a2 : Int) : Option (Int × Int) :=
  (slices_medianOrdered_int a0 (IntKind.i64.wrap (a1 - 1)) a1 (IntKind.i64.wrap (a1 + 1)) a2).bind fun y1 =>
  some (y1.1, y1.2)
noncomputable def slices_choosePivotOrdered_int_j0  (v1 : Int × Int) : Option (Int × Int) :=
  if (v1.2 == 0) = true then
    some (v1.1, 1)
  else
  if (v1.2 == 12) = true then
    some (v1.1, 2)
  else
    some (v1.1, 0)
noncomputable def slices_choosePivotOrdered_int_j1 (a0 : List Int) (v2 : Int × Int × Int × Int) : Option (Int × Int) :=
  (slices_medianOrdered_int a0 v2.1 v2.2.1 v2.2.2.1 v2.2.2.2).bind fun y3 =>
  slices_choosePivotOrdered_int_j0 (y3.1, y3.2)
noncomputable def slices_choosePivotOrdered_int (a0 : List Int) (a1 : Int) (a2 : Int) : Option (Int × Int) :=
  if (decide (8 ≤ (IntKind.i64.wrap (a2 - a1)))) = true then
    if (decide (50 ≤ (IntKind.i64.wrap (a2 - a1)))) = true then
      (slices_medianAdjacentOrdered_int a0 (IntKind.i64.wrap (a1 + (IntKind.i64.wrap ((IntKind.i64.wrap (((IntKind.i64.wrap (a2 - a1))).tdiv 4)) * 1)))) 0).bind fun y4 =>
      (slices_medianAdjacentOrdered_int a0 (IntKind.i64.wrap (a1 + (IntKind.i64.wrap ((IntKind.i64.wrap (((IntKind.i64.wrap (a2 - a1))).tdiv 4)) * 2)))) y4.2).bind fun y5 =>
      (slices_medianAdjacentOrdered_int a0 (IntKind.i64.wrap (a1 + (IntKind.i64.wrap ((IntKind.i64.wrap (((IntKind.i64.wrap (a2 - a1))).tdiv 4)) * 3)))) y5.2).bind fun y6 =>
      slices_choosePivotOrdered_int_j1 a0 (y4.1, y5.1, y6.1, y6.2)
    else
      slices_choosePivotOrdered_int_j1 a0 (IntKind.i64.wrap (a1 + (IntKind.i64.wrap ((IntKind.i64.wrap (((IntKind.i64.wrap (a2 - a1))).tdiv 4)) * 1))), IntKind.i64.wrap (a1 + (IntKind.i64.wrap ((IntKind.i64.wrap (((IntKind.i64.wrap (a2 - a1))).tdiv 4)) * 2))), IntKind.i64.wrap (a1 + (IntKind.i64.wrap ((IntKind.i64.wrap (((IntKind.i64.wrap (a2 - a1))).tdiv 4)) * 3))), 0)
  else
    slices_choosePivotOrdered_int_j0 (IntKind.i64.wrap (a1 + (IntKind.i64.wrap ((IntKind.i64.wrap (((IntKind.i64.wrap (a2 - a1))).tdiv 4)) * 2))), 0)
noncomputable def notice_Open_l0 (a1 : List api_Case) (a2 : Int) (s4 : Int × (List (Int × Bool))) : Option (Lp (Int × (List (Int × Bool))) (List (Int × Bool))) :=
  if (decide (s4.1 < ((a1).length : Int))) = true then
    (idx a1 s4.1).bind fun x5 =>
    if (decide (a2 < x5.Time)) = true then
      some (.go (IntKind.i64.wrap (s4.1 + 1), s4.2))
    else
    if (x5.Kind == 1) = true then
      some (.go (IntKind.i64.wrap (s4.1 + 1), (mset inE s4.2 x5.Case true)))
    else
    if (x5.Kind == 3) = true then
      some (.go (IntKind.i64.wrap (s4.1 + 1), (mdel inE s4.2 x5.Case)))
    else
      some (.go (IntKind.i64.wrap (s4.1 + 1), s4.2))
  else
    some (.out s4.2)
noncomputable def notice_Open (a0 : api_Directory) (a1 : List api_Case) (a2 : Int) : Option ((List Int)) :=
  (notice_Check a0 a1).bind fun y1 =>
  if (y1 != 0) = true then
    some []
  else
  (iter (notice_Open_l0 a1 a2) (0, [])).bind fun v2 =>
  (notice_sorted v2).bind fun y3 =>
  some y3
noncomputable def notice_Late_l0 (y1 : (List api_Notice) × Int) (y2 : (List Int)) (s5 : Int × (List (Int × Bool))) : Option (Lp (Int × (List (Int × Bool))) (List (Int × Bool))) :=
  if (decide (s5.1 < ((y1.1).length : Int))) = true then
    (idx y1.1 s5.1).bind fun x6 =>
    Option.bind (
      if (decide (0 < x6.Step)) = true then
        (slices_Contains_int y2 x6.Case).bind fun y8 =>
        some y8
      else
        some false) fun v7 =>
    if v7 = true then
      some (.go (IntKind.i64.wrap (s5.1 + 1), (mset inE s5.2 x6.Case true)))
    else
      some (.go (IntKind.i64.wrap (s5.1 + 1), s5.2))
  else
    some (.out s5.2)
noncomputable def notice_Late (a0 : api_Calendar) (a1 : api_Directory) (a2 : List api_Steward) (a3 : List api_Case) (a4 : Int) : Option ((List Int) × Int) :=
  (notice_All a0 a1 a2 a3 a4).bind fun y1 =>
  if (y1.2 != 0) = true then
    some ([], y1.2)
  else
  (notice_Open a1 a3 a4).bind fun y2 =>
  (iter (notice_Late_l0 y1 y2) (0, [])).bind fun v3 =>
  (notice_sorted v3).bind fun y4 =>
  some (y4, 0)
noncomputable def ref41_Open_l1 (v2 : (List Int)) (s4 : Int × (List Int)) : Option (Lp (Int × (List Int)) (List Int)) :=
  if (decide (s4.1 < 16)) = true then
    (ck (s4.1 < 16)).bind fun _ =>
    (idx v2 s4.1).bind fun x5 =>
    (some ((x5 != 0) && (x5 != 3))).bind fun v6 =>
    if v6 = true then
      (ck ((s4.2).length + ([s4.1]).length ≤ 268435456)).bind fun _ =>
      some (.go (IntKind.i64.wrap (s4.1 + 1), (s4.2 ++ [s4.1])))
    else
      some (.go (IntKind.i64.wrap (s4.1 + 1), s4.2))
  else
    some (.out s4.2)
noncomputable def ref41_Open_l0 (a1 : List api_Case) (a2 : Int) (s7 : Int × (List Int)) : Option (Lp (Int × (List Int)) (List Int)) :=
  if (decide (s7.1 < ((a1).length : Int))) = true then
    (idx a1 s7.1).bind fun x8 =>
    Option.bind (
      if (decide (x8.Time ≤ a2)) = true then
        (ck (0 ≤ x8.Case ∧ x8.Case < 16)).bind fun _ =>
        (idx s7.2 x8.Case).bind fun x10 =>
        some (x10 != 3)
      else
        some false) fun v9 =>
    if v9 = true then
      (ck (0 ≤ x8.Case ∧ x8.Case < 16)).bind fun _ =>
      (ck ((Int.toNat x8.Case) < (s7.2).length)).bind fun _ =>
      some (.go (IntKind.i64.wrap (s7.1 + 1), (s7.2.set (Int.toNat x8.Case) x8.Kind)))
    else
      some (.go (IntKind.i64.wrap (s7.1 + 1), s7.2))
  else
    some (.out s7.2)
noncomputable def ref41_Open (a0 : api_Directory) (a1 : List api_Case) (a2 : Int) : Option ((List Int)) :=
  (ref41_Check a0 a1).bind fun y1 =>
  if (y1 != 0) = true then
    some []
  else
  (iter (ref41_Open_l0 a1 a2) (0, (zerosI 16))).bind fun v2 =>
  (ck ((v2).length = 16)).bind fun _ =>
  (iter (ref41_Open_l1 v2) (0, [])).bind fun v3 =>
  some v3
noncomputable def ref41_Late_l1 (y1 : (List api_Notice) × Int) (x5 : Int) (s7 : Bool × Int) : Option (Lp (Bool × Int) Bool) :=
  if (decide (s7.2 < ((y1.1).length : Int))) = true then
    (idx y1.1 s7.2).bind fun x8 =>
    (some (s7.1 || ((x8.Case == x5) && (decide (1 ≤ x8.Step))))).bind fun v9 =>
    some (.go (v9, IntKind.i64.wrap (s7.2 + 1)))
  else
    some (.out s7.1)
noncomputable def ref41_Late_l0 (y2 : (List Int)) (y1 : (List api_Notice) × Int) (s4 : Int × (List Int)) : Option (Lp (Int × (List Int)) (List Int)) :=
  if (decide (s4.1 < ((y2).length : Int))) = true then
    (idx y2 s4.1).bind fun x5 =>
    (iter (ref41_Late_l1 y1 x5) (false, 0)).bind fun v6 =>
    if v6 = true then
      (ck ((s4.2).length + ([x5]).length ≤ 268435456)).bind fun _ =>
      some (.go (IntKind.i64.wrap (s4.1 + 1), (s4.2 ++ [x5])))
    else
      some (.go (IntKind.i64.wrap (s4.1 + 1), s4.2))
  else
    some (.out s4.2)
noncomputable def ref41_Late (a0 : api_Calendar) (a1 : api_Directory) (a2 : List api_Steward) (a3 : List api_Case) (a4 : Int) : Option ((List Int) × Int) :=
  (ref41_All a0 a1 a2 a3 a4).bind fun y1 =>
  if (y1.2 != 0) = true then
    some ([], y1.2)
  else
  (ref41_Open a1 a3 a4).bind fun y2 =>
  (iter (ref41_Late_l0 y2 y1) (0, [])).bind fun v3 =>
  some (v3, 0)
noncomputable def ref41_Same_l0 (a0 : List api_Notice) (a1 : List api_Notice) (s2 : Int) : Option (Lp Int (Unit ⊕ Bool)) :=
  if (decide (s2 < ((a0).length : Int))) = true then
    (idx a0 s2).bind fun x3 =>
    (idx a1 s2).bind fun x4 =>
    if (!((x3.Time == x4.Time) && ((x3.Case == x4.Case) && ((x3.To == x4.To) && (x3.Step == x4.Step))))) = true then
      some (.out (.inr false))
    else
      some (.go (IntKind.i64.wrap (s2 + 1)))
  else
    some (.out (.inl ()))
noncomputable def ref41_Same (a0 : List api_Notice) (a1 : List api_Notice) : Option (Bool) :=
  if (((a0).length : Int) != ((a1).length : Int)) = true then
    some false
  else
  (iter (ref41_Same_l0 a0 a1) 0).bind fun q6 =>
  match q6 with
  | .inl v1 =>
    some true
  | .inr r5 =>
    some r5
noncomputable def ref23_Ints_l0 (a0 : List Int) (a1 : List Int) (s2 : Int) : Option (Lp Int (Unit ⊕ Bool)) :=
  if (decide (s2 < ((a0).length : Int))) = true then
    (idx a0 s2).bind fun x3 =>
    (idx a1 s2).bind fun x4 =>
    if (x3 != x4) = true then
      some (.out (.inr false))
    else
      some (.go (IntKind.i64.wrap (s2 + 1)))
  else
    some (.out (.inl ()))
noncomputable def ref23_Ints (a0 : List Int) (a1 : List Int) : Option (Bool) :=
  if (((a0).length : Int) != ((a1).length : Int)) = true then
    some false
  else
  (iter (ref23_Ints_l0 a0 a1) 0).bind fun q6 =>
  match q6 with
  | .inl v1 =>
    some true
  | .inr r5 =>
    some r5
noncomputable def law41_NoticeExact_j4 (y3 : api_Calendar × make_Tape) (x17 : api_Directory) (x19 : List api_Steward) (x15 : List api_Case) (s14 : Int × (List Int) × Int) (v25 : (List Int) × Int × Int) : Option (Lp (Int × (List Int) × Int) (Unit ⊕ Bool)) :=
  (make_Tape_Next (⟨v25.1, v25.2.1⟩ : make_Tape) 8).bind fun y26 =>
  if (y26.1 == 7) = true then
    (notice_All (⟨v25.2.2, y3.1.From, y3.1.To, 0, y3.1.Holidays⟩ : api_Calendar) x17 x19 x15 20).bind fun y27 =>
    (ref41_All (⟨v25.2.2, y3.1.From, y3.1.To, 0, y3.1.Holidays⟩ : api_Calendar) x17 x19 x15 20).bind fun y28 =>
    Option.bind (
      if (y27.2 != y28.2) = true then
        some true
      else
      (ref41_Same y27.1 y28.1).bind fun y30 =>
      some (!y30)) fun v29 =>
    if v29 = true then
      some (.out (.inr false))
    else
      some (.go (IntKind.i64.wrap (s14.1 + 1), y26.2.L, y26.2.at_))
  else
    some (.go (IntKind.i64.wrap (s14.1 + 1), y26.2.L, y26.2.at_))
noncomputable def law41_NoticeExact_j5 (y3 : api_Calendar × make_Tape) (x17 : api_Directory) (x19 : List api_Steward) (x15 : List api_Case) (s32 : Int) (v34 : Int) : Option (Lp Int (Unit ⊕ Bool)) :=
  (notice_All y3.1 x17 x19 x15 v34).bind fun y35 =>
  (ref41_All y3.1 x17 x19 x15 v34).bind fun y36 =>
  (notice_Late y3.1 x17 x19 x15 v34).bind fun y37 =>
  (ref41_Late y3.1 x17 x19 x15 v34).bind fun y38 =>
  Option.bind (
    if (y35.2 != y36.2) = true then
      some true
    else
    (ref41_Same y35.1 y36.1).bind fun y40 =>
    if (!y40) = true then
      some true
    else
    if (y37.2 != y38.2) = true then
      some true
    else
    (ref23_Ints y37.1 y38.1).bind fun y41 =>
    if (!y41) = true then
      some true
    else
    (notice_Open x17 x15 v34).bind fun y42 =>
    (ref41_Open x17 x15 v34).bind fun y43 =>
    (ref23_Ints y42 y43).bind fun y44 =>
    some (!y44)) fun v39 =>
  if v39 = true then
    some (.out (.inr false))
  else
    some (.go (IntKind.i64.wrap (s32 + 1)))
noncomputable def law41_NoticeExact_l3 (l23 : List Int) (y3 : api_Calendar × make_Tape) (x17 : api_Directory) (x19 : List api_Steward) (x15 : List api_Case) (s32 : Int) : Option (Lp Int (Unit ⊕ Bool)) :=
  if (decide (s32 < 3)) = true then
    (ck (s32 < 3)).bind fun _ =>
    (idx l23 s32).bind fun x33 =>
    (some ((decide (400 < x33)) && (decide (x33 ≤ 1099511627776)))).bind fun v45 =>
    if v45 = true then
      law41_NoticeExact_j5 y3 x17 x19 x15 s32 ((x33).tmod 400)
    else
      law41_NoticeExact_j5 y3 x17 x19 x15 s32 x33
  else
    some (.out (.inl ()))
noncomputable def law41_NoticeExact_l2 (l11 : List (List api_Case)) (y4 : api_Directory × make_Tape) (a1 : api_Directory) (y5 : (List api_Steward) × make_Tape) (a2 : List api_Steward) (a5 : Int) (y3 : api_Calendar × make_Tape) (s14 : Int × (List Int) × Int) : Option (Lp (Int × (List Int) × Int) (Unit ⊕ Bool)) :=
  if (decide (s14.1 < 3)) = true then
    (ck (s14.1 < 3)).bind fun _ =>
    (idx l11 s14.1).bind fun x15 =>
    (some ([y4.1, y4.1, a1] : List api_Directory)).bind fun l16 =>
    (ck (s14.1 < 3)).bind fun _ =>
    (idx l16 s14.1).bind fun x17 =>
    (some ([y5.1, y5.1, a2] : List (List api_Steward))).bind fun l18 =>
    (ck (s14.1 < 3)).bind fun _ =>
    (idx l18 s14.1).bind fun x19 =>
    (notice_Check x17 x15).bind fun y20 =>
    (ref41_Check x17 x15).bind fun y21 =>
    if (y20 != y21) = true then
      some (.out (.inr false))
    else
    (make_Tape_Next (⟨s14.2.1, s14.2.2⟩ : make_Tape) 60).bind fun y22 =>
    (some [a5, y22.1, 400]).bind fun l23 =>
    (iter (law41_NoticeExact_l3 l23 y3 x17 x19 x15) 0).bind fun q47 =>
    match q47 with
    | .inl v24 =>
      (make_Tape_Next y22.2 2).bind fun y31 =>
      if (y31.1 == 0) = true then
        law41_NoticeExact_j4 y3 x17 x19 x15 s14 (y31.2.L, y31.2.at_, 0)
      else
        law41_NoticeExact_j4 y3 x17 x19 x15 s14 (y31.2.L, y31.2.at_, y3.1.Day)
    | .inr r46 =>
      some (.out (.inr r46))
  else
    some (.out (.inl ()))
noncomputable def law41_NoticeExact_l1 (l9 : List Int) (s50 : Int) : Option (Lp Int (Unit ⊕ Bool)) :=
  if (decide (s50 < 3)) = true then
    (ck (s50 < 3)).bind fun _ =>
    (idx l9 s50).bind fun x51 =>
    (notice_Deadline x51).bind fun y52 =>
    (ref41_Deadline x51).bind fun y53 =>
    if (y52 != y53) = true then
      some (.out (.inr false))
    else
      some (.go (IntKind.i64.wrap (s50 + 1)))
  else
    some (.out (.inl ()))
noncomputable def law41_NoticeExact_j0 (a4 : Int) (y6 : (List api_Case) × make_Tape) (a3 : List api_Case) (y4 : api_Directory × make_Tape) (a1 : api_Directory) (y5 : (List api_Steward) × make_Tape) (a2 : List api_Steward) (a5 : Int) (y3 : api_Calendar × make_Tape) (v7 : (List Int) × Int × (List api_Case)) : Option Bool :=
  (make_Tape_Next (⟨v7.1, v7.2.1⟩ : make_Tape) 5).bind fun y8 =>
  (some [a4, y8.1, 1]).bind fun l9 =>
  (iter (law41_NoticeExact_l1 l9) 0).bind fun q55 =>
  match q55 with
  | .inl v10 =>
    (some [y6.1, v7.2.2, a3]).bind fun l11 =>
    (iter (law41_NoticeExact_l2 l11 y4 a1 y5 a2 a5 y3) (0, y8.2.L, y8.2.at_)).bind fun q49 =>
    match q49 with
    | .inl v12 =>
      (law41_awake).bind fun y13 =>
      some y13
    | .inr r48 =>
      some r48
  | .inr r54 =>
    some r54
noncomputable def law41_NoticeExact (a0 : List Int) (a1 : api_Directory) (a2 : List api_Steward) (a3 : List api_Case) (a4 : Int) (a5 : Int) : Option (Bool) :=
  (some ((decide (400 < ((a0).length : Int))) || ((decide (26 < ((a1.Kinds).length : Int))) || ((decide (20 < ((a1.Events).length : Int))) || ((decide (20 < ((a2).length : Int))) || (decide (20 < ((a3).length : Int)))))))).bind fun v1 =>
  if v1 = true then
    (law41_awake).bind fun y2 =>
    some y2
  else
  (make_Calendar (⟨a0, 0⟩ : make_Tape)).bind fun y3 =>
  (make_Directory y3.2).bind fun y4 =>
  (make_Stewards y4.2 y4.1).bind fun y5 =>
  (make_Cases y5.2 y4.1).bind fun y6 =>
  (ck ((y6.1).length ≤ 268435456)).bind fun _ =>
  if (decide (0 < ((y6.1).length : Int))) = true then
    (make_Tape_Next y6.2 ((y6.1).length : Int)).bind fun y56 =>
    (ck (0 ≤ y56.1 ∧ (Int.toNat y56.1) < (y6.1).length)).bind fun _ =>
    (make_Tape_Next y56.2 5).bind fun y57 =>
    if (y57.1 == 0) = true then
      (make_Tape_Between y57.2 (-1) 30).bind fun y58 =>
      (idx y6.1 y56.1).bind fun x59 =>
      law41_NoticeExact_j0 a4 y6 a3 y4 a1 y5 a2 a5 y3 (y58.2.L, y58.2.at_, (y6.1.set (Int.toNat y56.1) (⟨y58.1, x59.Kind, x59.Case, x59.Level, x59.Owner⟩ : api_Case)))
    else
    if (y57.1 == 1) = true then
      (make_Tape_Next y57.2 5).bind fun y60 =>
      (idx y6.1 y56.1).bind fun x61 =>
      law41_NoticeExact_j0 a4 y6 a3 y4 a1 y5 a2 a5 y3 (y60.2.L, y60.2.at_, (y6.1.set (Int.toNat y56.1) (⟨x61.Time, y60.1, x61.Case, x61.Level, x61.Owner⟩ : api_Case)))
    else
    if (y57.1 == 2) = true then
      (make_Tape_Between y57.2 (-1) 16).bind fun y62 =>
      (idx y6.1 y56.1).bind fun x63 =>
      law41_NoticeExact_j0 a4 y6 a3 y4 a1 y5 a2 a5 y3 (y62.2.L, y62.2.at_, (y6.1.set (Int.toNat y56.1) (⟨x63.Time, x63.Kind, y62.1, x63.Level, x63.Owner⟩ : api_Case)))
    else
    if (y57.1 == 3) = true then
      (make_Tape_Next y57.2 6).bind fun y64 =>
      (idx y6.1 y56.1).bind fun x65 =>
      law41_NoticeExact_j0 a4 y6 a3 y4 a1 y5 a2 a5 y3 (y64.2.L, y64.2.at_, (y6.1.set (Int.toNat y56.1) (⟨x65.Time, x65.Kind, x65.Case, y64.1, x65.Owner⟩ : api_Case)))
    else
    (make_Tape_Between y57.2 (-1) 8).bind fun y66 =>
    (idx y6.1 y56.1).bind fun x67 =>
    law41_NoticeExact_j0 a4 y6 a3 y4 a1 y5 a2 a5 y3 (y66.2.L, y66.2.at_, (y6.1.set (Int.toNat y56.1) (⟨x67.Time, x67.Kind, x67.Case, x67.Level, y66.1⟩ : api_Case)))
  else
    law41_NoticeExact_j0 a4 y6 a3 y4 a1 y5 a2 a5 y3 (y6.2.L, y6.2.at_, y6.1)
end Go.Vl
