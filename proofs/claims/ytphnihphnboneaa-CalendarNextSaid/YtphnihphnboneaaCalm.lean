/- Plain functions that mirror functions of the given program. Conditions: none. -/
import Derived.Test.YtphnihphnboneaaVlV
set_option linter.unusedSimpArgs false
set_option linter.unusedVariables false
namespace Go.Vl
open Go
structure api_Calendar where
  Day : Int
  From : Int
  To : Int
  Week : Int
  Holidays : List Int
deriving Inhabited
@[simp] def api_Calendar_row (x : api_Calendar) : List D := [.int .i64 x.Day, .int .i64 x.From, .int .i64 x.To, .int .i64 x.Week, .slice (rowsF (iRow .i64) x.Holidays)]
@[simp] def api_Calendar_av (x : api_Calendar) : List AV := [.d (.int .i64 x.Day), .d (.int .i64 x.From), .d (.int .i64 x.To), .d (.int .i64 x.Week), .d (.slice (rowsF (iRow .i64) x.Holidays))]
structure make_Tape where
  L : List Int
  at_ : Int
deriving Inhabited
@[simp] def make_Tape_row (x : make_Tape) : List D := [.slice (rowsF (iRow .i64) x.L), .int .i64 x.at_]
@[simp] def make_Tape_av (x : make_Tape) : List AV := [.d (.slice (rowsF (iRow .i64) x.L)), .d (.int .i64 x.at_)]
noncomputable def law40_week  : Option (api_Calendar) :=
  some (⟨24, 8, 16, 31, []⟩ : api_Calendar)
noncomputable def calendar_among (a0 : Int) (a1 : Int) (a2 : Int) : Option (Bool) :=
  (some ((decide (a1 ≤ a0)) && (decide (a0 ≤ a2)))).bind fun v1 =>
  some v1
noncomputable def directory_Ascending_l0 (a0 : List Int) (s2 : Int) : Option (Lp Int (Unit ⊕ Bool)) :=
  if (decide (s2 < ((a0).length : Int))) = true then
    (idx a0 (IntKind.i64.wrap (s2 - 1))).bind fun x3 =>
    (idx a0 s2).bind fun x4 =>
    if (decide (x4 ≤ x3)) = true then
      some (.out (.inr false))
    else
      some (.go (IntKind.i64.wrap (s2 + 1)))
  else
    some (.out (.inl ()))
noncomputable def directory_Ascending (a0 : List Int) : Option (Bool) :=
  (iter (directory_Ascending_l0 a0) 1).bind fun q6 =>
  match q6 with
  | .inl v1 =>
    some true
  | .inr r5 =>
    some r5
noncomputable def calendar_Check (a0 : api_Calendar) : Option (Int) :=
  Option.bind (
    (calendar_among a0.Day 1 48).bind fun y5 =>
    if (!y5) = true then
      some true
    else
    if (decide (a0.From < 0)) = true then
      some true
    else
    if (decide (a0.To ≤ a0.From)) = true then
      some true
    else
    if (decide (a0.Day < a0.To)) = true then
      some true
    else
    (calendar_among a0.Week 0 127).bind fun y6 =>
    some (!y6)) fun v1 =>
  if v1 = true then
    some 42
  else
  Option.bind (
    if (decide (40 < ((a0.Holidays).length : Int))) = true then
      some true
    else
    (directory_Ascending a0.Holidays).bind fun y3 =>
    if (!y3) = true then
      some true
    else
    if (decide (0 < ((a0.Holidays).length : Int))) = true then
      (idx a0.Holidays 0).bind fun x4 =>
      some (decide (x4 < 0))
    else
      some false) fun v2 =>
  if v2 = true then
    some 42
  else
    some 0
noncomputable def calendar_tick (a0 : Int) : Option (Bool) :=
  (calendar_among a0 0 1099511627776).bind fun y1 =>
  some y1
noncomputable def cmp_isNaN_int (a0 : Int) : Option (Bool) :=
  some (a0 != a0)
noncomputable def cmp_Less_int (a0 : Int) (a1 : Int) : Option (Bool) :=
  Option.bind (
    (cmp_isNaN_int a0).bind fun y2 =>
    if y2 = true then
      (cmp_isNaN_int a1).bind fun y3 =>
      if (!y3) = true then
        some true
      else
        some (decide (a0 < a1))
    else
      some (decide (a0 < a1))) fun v1 =>
  some v1
noncomputable def slices_isNaN_int (a0 : Int) : Option (Bool) :=
  some (a0 != a0)
noncomputable def slices_BinarySearch_int_l0 (a0 : List Int) (a1 : Int) (s7 : Int × Int) : Option (Lp (Int × Int) Int) :=
  if (decide (s7.1 < s7.2)) = true then
    (idx a0 (IntKind.i64.wrap (((IntKind.u64.wrap (IntKind.i64.wrap (s7.1 + s7.2)))).fdiv (2 ^ (min 1 IntKind.u64.bits))))).bind fun x8 =>
    (cmp_Less_int x8 a1).bind fun y9 =>
    if y9 = true then
      some (.go (IntKind.i64.wrap ((IntKind.i64.wrap (((IntKind.u64.wrap (IntKind.i64.wrap (s7.1 + s7.2)))).fdiv (2 ^ (min 1 IntKind.u64.bits)))) + 1), s7.2))
    else
      some (.go (s7.1, IntKind.i64.wrap (((IntKind.u64.wrap (IntKind.i64.wrap (s7.1 + s7.2)))).fdiv (2 ^ (min 1 IntKind.u64.bits)))))
  else
    some (.out s7.1)
noncomputable def slices_BinarySearch_int (a0 : List Int) (a1 : Int) : Option (Int × Bool) :=
  (iter (slices_BinarySearch_int_l0 a0 a1) (0, ((a0).length : Int))).bind fun v1 =>
  Option.bind (
    if (decide (v1 < ((a0).length : Int))) = true then
      (idx a0 v1).bind fun x3 =>
      if (x3 == a1) = true then
        some true
      else
      (idx a0 v1).bind fun x4 =>
      (slices_isNaN_int x4).bind fun y5 =>
      if y5 = true then
        (slices_isNaN_int a1).bind fun y6 =>
        some y6
      else
        some false
    else
      some false) fun v2 =>
  some (v1, v2)
noncomputable def calendar_working (a0 : api_Calendar) (a1 : Int) : Option (Bool) :=
  (ck (a0.Day ≠ 0)).bind fun _ =>
  (ck (a0.Day ≠ 0)).bind fun _ =>
  (slices_BinarySearch_int a0.Holidays (IntKind.i64.wrap ((a1).tdiv a0.Day))).bind fun y1 =>
  Option.bind (
    if (decide (a0.From ≤ ((a1).tmod a0.Day))) = true then
      if (decide (((a1).tmod a0.Day) < a0.To)) = true then
        (ck (¬ (((IntKind.i64.wrap ((a1).tdiv a0.Day))).tmod 7) < 0)).bind fun _ =>
        if ((bAnd .i64 ((a0.Week).fdiv (2 ^ (min (Int.toNat (((IntKind.i64.wrap ((a1).tdiv a0.Day))).tmod 7)) IntKind.i64.bits))) 1) == 1) = true then
          some (!y1.2)
        else
          some false
      else
        some false
    else
      some false) fun v2 =>
  some v2
noncomputable def calendar_Add_l0 (a1 : Int) (a0 : api_Calendar) (s4 : Int × Int) : Option (Lp (Int × Int) (Unit ⊕ (Int × Int))) :=
  if (decide (s4.2 ≤ (if 1099511627776 < (IntKind.i64.wrap (a1 + 100000)) then 1099511627776 else (IntKind.i64.wrap (a1 + 100000))))) = true then
    if (s4.1 == 0) = true then
      some (.out (.inr (s4.2, 0)))
    else
    (calendar_working a0 s4.2).bind fun y5 =>
    if y5 = true then
      some (.go (IntKind.i64.wrap (s4.1 - 1), IntKind.i64.wrap (s4.2 + 1)))
    else
      some (.go (s4.1, IntKind.i64.wrap (s4.2 + 1)))
  else
    some (.out (.inl ()))
noncomputable def calendar_Add (a0 : api_Calendar) (a1 : Int) (a2 : Int) : Option (Int × Int) :=
  (calendar_Check a0).bind fun y1 =>
  if (y1 != 0) = true then
    some (0, 42)
  else
  Option.bind (
    (calendar_tick a1).bind fun y8 =>
    if (!y8) = true then
      some true
    else
    (calendar_among a2 0 1000).bind fun y9 =>
    some (!y9)) fun v2 =>
  if v2 = true then
    some (0, 2)
  else
  (iter (calendar_Add_l0 a1 a0) (a2, a1)).bind fun q7 =>
  match q7 with
  | .inl v3 =>
    some (0, 41)
  | .inr r6 =>
    some r6
noncomputable def calendar_Between_l0 (a2 : Int) (a0 : api_Calendar) (s4 : Int × Int) : Option (Lp (Int × Int) Int) :=
  if (decide (s4.2 < a2)) = true then
    (calendar_working a0 s4.2).bind fun y5 =>
    if y5 = true then
      some (.go (IntKind.i64.wrap (s4.1 + 1), IntKind.i64.wrap (s4.2 + 1)))
    else
      some (.go (s4.1, IntKind.i64.wrap (s4.2 + 1)))
  else
    some (.out s4.1)
noncomputable def calendar_Between (a0 : api_Calendar) (a1 : Int) (a2 : Int) : Option (Int × Int) :=
  (calendar_Check a0).bind fun y1 =>
  if (y1 != 0) = true then
    some (0, 42)
  else
  Option.bind (
    (calendar_tick a1).bind fun y6 =>
    if (!y6) = true then
      some true
    else
    (calendar_tick a2).bind fun y7 =>
    if (!y7) = true then
      some true
    else
      some (decide (a2 < a1))) fun v2 =>
  if v2 = true then
    some (0, 2)
  else
  if (decide (100000 < (IntKind.i64.wrap (a2 - a1)))) = true then
    some (0, 3)
  else
  (iter (calendar_Between_l0 a2 a0) (0, a1)).bind fun v3 =>
  some (v3, 0)
noncomputable def calendar_Next_l0 (a1 : Int) (a0 : api_Calendar) (s4 : Int) : Option (Lp Int (Unit ⊕ (Int × Int))) :=
  if (decide (s4 ≤ (if 1099511627776 < (IntKind.i64.wrap (a1 + 100000)) then 1099511627776 else (IntKind.i64.wrap (a1 + 100000))))) = true then
    (calendar_working a0 s4).bind fun y5 =>
    if y5 = true then
      some (.out (.inr (s4, 0)))
    else
      some (.go (IntKind.i64.wrap (s4 + 1)))
  else
    some (.out (.inl ()))
noncomputable def calendar_Next (a0 : api_Calendar) (a1 : Int) : Option (Int × Int) :=
  (calendar_Check a0).bind fun y1 =>
  if (y1 != 0) = true then
    some (0, 42)
  else
  (calendar_tick a1).bind fun y2 =>
  if (!y2) = true then
    some (0, 2)
  else
  (iter (calendar_Next_l0 a1 a0) a1).bind fun q7 =>
  match q7 with
  | .inl v3 =>
    some (0, 41)
  | .inr r6 =>
    some r6
noncomputable def calendar_Working (a0 : api_Calendar) (a1 : Int) : Option (Bool) :=
  Option.bind (
    (calendar_Check a0).bind fun y2 =>
    if (y2 == 0) = true then
      (calendar_tick a1).bind fun y3 =>
      if y3 = true then
        (calendar_working a0 a1).bind fun y4 =>
        some y4
      else
        some false
    else
      some false) fun v1 =>
  some v1
noncomputable def law40_awake  : Option (Bool) :=
  (law40_week).bind fun y1 =>
  (calendar_Add y1 15 2).bind fun y2 =>
  (law40_week).bind fun y3 =>
  (calendar_Between y3 15 33).bind fun y4 =>
  (law40_week).bind fun y5 =>
  (calendar_Next y5 16).bind fun y6 =>
  Option.bind (
    if (y2.2 == 0) = true then
      if (y2.1 == 33) = true then
        if (y4.2 == 0) = true then
          if (y4.1 == 2) = true then
            if (y6.2 == 0) = true then
              if (y6.1 == 32) = true then
                (law40_week).bind fun y8 =>
                (calendar_Working y8 15).bind fun y9 =>
                if y9 = true then
                  (law40_week).bind fun y10 =>
                  (calendar_Working y10 16).bind fun y11 =>
                  some (!y11)
                else
                  some false
              else
                some false
            else
              some false
          else
            some false
        else
          some false
      else
        some false
    else
      some false) fun v7 =>
  some v7
noncomputable def make_Tape_Next (a0 : make_Tape) (a1 : Int) : Option (Int × make_Tape) :=
  if (decide (((a0.L).length : Int) ≤ a0.at_)) = true then
    some (0, a0)
  else
  (idx a0.L a0.at_).bind fun x1 =>
  (ck (a1 ≠ 0)).bind fun _ =>
  some (((bAnd .i64 x1 65535)).tmod a1, (⟨a0.L, IntKind.i64.wrap (a0.at_ + 1)⟩ : make_Tape))
noncomputable def make_Tape_Between (a0 : make_Tape) (a1 : Int) (a2 : Int) : Option (Int × make_Tape) :=
  (make_Tape_Next a0 (IntKind.i64.wrap ((IntKind.i64.wrap (a2 - a1)) + 1))).bind fun y1 =>
  some (IntKind.i64.wrap (a1 + y1.1), y1.2)
noncomputable def make_Pick (a0 : make_Tape) (a1 : List Int) : Option (Int × make_Tape) :=
  (make_Tape_Next a0 ((a1).length : Int)).bind fun y1 =>
  (idx a1 y1.1).bind fun x2 =>
  some (x2, y1.2)
noncomputable def make_Few_l0 (a1 : Int) (a2 : Int) (s2 : Int × (List Int) × Int × (List Int)) : Option (Lp (Int × (List Int) × Int × (List Int)) ((List Int) × Int × (List Int))) :=
  if (decide (s2.1 < a1)) = true then
    (make_Tape_Next (⟨s2.2.1, s2.2.2.1⟩ : make_Tape) a2).bind fun y3 =>
    if (y3.1 == (IntKind.i64.wrap (a2 - 1))) = true then
      (ck ((s2.2.2.2).length + ([s2.1]).length ≤ 268435456)).bind fun _ =>
      some (.go (IntKind.i64.wrap (s2.1 + 1), y3.2.L, y3.2.at_, (s2.2.2.2 ++ [s2.1])))
    else
      some (.go (IntKind.i64.wrap (s2.1 + 1), y3.2.L, y3.2.at_, s2.2.2.2))
  else
    some (.out (s2.2.1, s2.2.2.1, s2.2.2.2))
noncomputable def make_Few (a0 : make_Tape) (a1 : Int) (a2 : Int) : Option ((List Int) × make_Tape) :=
  (iter (make_Few_l0 a1 a2) (0, a0.L, a0.at_, [])).bind fun v1 =>
  some (v1.2.2, (⟨v1.1, v1.2.1⟩ : make_Tape))
noncomputable def make_Calendar (a0 : make_Tape) : Option (api_Calendar × make_Tape) :=
  (make_Tape_Between a0 1 12).bind fun y1 =>
  (make_Pick y1.2 [31, 127, 62, 1]).bind fun y2 =>
  (make_Tape_Next y2.2 y1.1).bind fun y3 =>
  (make_Tape_Between y3.2 (IntKind.i64.wrap (y3.1 + 1)) y1.1).bind fun y4 =>
  (make_Few y4.2 12 4).bind fun y5 =>
  some ((⟨y1.1, y3.1, y4.1, y2.1, y5.1⟩ : api_Calendar), y5.2)
noncomputable def ref40_in (a0 : Int) (a1 : Int) (a2 : Int) : Option (Bool) :=
  (some ((decide (a1 ≤ a0)) && (decide (a0 ≤ a2)))).bind fun v1 =>
  some v1
noncomputable def ref40_Valid_l0 (a0 : api_Calendar) (s3 : Int) : Option (Lp Int (Unit ⊕ Bool)) :=
  if (decide (s3 < ((a0.Holidays).length : Int))) = true then
    (idx a0.Holidays s3).bind fun x4 =>
    Option.bind (
      if (decide (x4 < 0)) = true then
        some true
      else
      if (decide (0 < s3)) = true then
        (idx a0.Holidays (IntKind.i64.wrap (s3 - 1))).bind fun x6 =>
        some (decide (x4 ≤ x6))
      else
        some false) fun v5 =>
    if v5 = true then
      some (.out (.inr false))
    else
      some (.go (IntKind.i64.wrap (s3 + 1)))
  else
    some (.out (.inl ()))
noncomputable def ref40_Valid (a0 : api_Calendar) : Option (Bool) :=
  Option.bind (
    (ref40_in a0.Day 1 48).bind fun y9 =>
    if (!y9) = true then
      some true
    else
    if (decide (a0.From < 0)) = true then
      some true
    else
    if (decide (a0.To ≤ a0.From)) = true then
      some true
    else
    if (decide (a0.Day < a0.To)) = true then
      some true
    else
    (ref40_in a0.Week 0 127).bind fun y10 =>
    if (!y10) = true then
      some true
    else
      some (decide (40 < ((a0.Holidays).length : Int)))) fun v1 =>
  if v1 = true then
    some false
  else
  (iter (ref40_Valid_l0 a0) 0).bind fun q8 =>
  match q8 with
  | .inl v2 =>
    some true
  | .inr r7 =>
    some r7
noncomputable def ref40_Check (a0 : api_Calendar) : Option (Int) :=
  (ref40_Valid a0).bind fun y1 =>
  if (!y1) = true then
    some 42
  else
    some 0
noncomputable def ref40_working_l0 (a0 : api_Calendar) (a1 : Int) (s3 : Int) : Option (Lp Int (Unit ⊕ Bool)) :=
  if (decide (s3 < ((a0.Holidays).length : Int))) = true then
    (idx a0.Holidays s3).bind fun x4 =>
    if (x4 == (IntKind.i64.wrap ((a1).tdiv a0.Day))) = true then
      some (.out (.inr false))
    else
      some (.go (IntKind.i64.wrap (s3 + 1)))
  else
    some (.out (.inl ()))
noncomputable def ref40_working (a0 : api_Calendar) (a1 : Int) : Option (Bool) :=
  (ck (a0.Day ≠ 0)).bind fun _ =>
  (ck (a0.Day ≠ 0)).bind fun _ =>
  Option.bind (
    if (decide (((a1).tmod a0.Day) < a0.From)) = true then
      some true
    else
    if (decide (a0.To ≤ ((a1).tmod a0.Day))) = true then
      some true
    else
    (ck (¬ (((IntKind.i64.wrap ((a1).tdiv a0.Day))).tmod 7) < 0)).bind fun _ =>
    some ((bAnd .i64 ((a0.Week).fdiv (2 ^ (min (Int.toNat (((IntKind.i64.wrap ((a1).tdiv a0.Day))).tmod 7)) IntKind.i64.bits))) 1) == 0)) fun v1 =>
  if v1 = true then
    some false
  else
  (iter (ref40_working_l0 a0 a1) 0).bind fun q6 =>
  match q6 with
  | .inl v2 =>
    some true
  | .inr r5 =>
    some r5
noncomputable def ref40_Between_l0 (a2 : Int) (a0 : api_Calendar) (s4 : Int × Int) : Option (Lp (Int × Int) Int) :=
  if (decide (s4.2 < a2)) = true then
    (ref40_working a0 s4.2).bind fun y5 =>
    if y5 = true then
      some (.go (IntKind.i64.wrap (s4.1 + 1), IntKind.i64.wrap (s4.2 + 1)))
    else
      some (.go (s4.1, IntKind.i64.wrap (s4.2 + 1)))
  else
    some (.out s4.1)
noncomputable def ref40_Between (a0 : api_Calendar) (a1 : Int) (a2 : Int) : Option (Int × Int) :=
  (ref40_Valid a0).bind fun y1 =>
  if (!y1) = true then
    some (0, 42)
  else
  Option.bind (
    (ref40_in a1 0 1099511627776).bind fun y6 =>
    if (!y6) = true then
      some true
    else
    (ref40_in a2 a1 1099511627776).bind fun y7 =>
    some (!y7)) fun v2 =>
  if v2 = true then
    some (0, 2)
  else
  if (decide (100000 < (IntKind.i64.wrap (a2 - a1)))) = true then
    some (0, 3)
  else
  (iter (ref40_Between_l0 a2 a0) (0, a1)).bind fun v3 =>
  some (v3, 0)
noncomputable def ref40_Working (a0 : api_Calendar) (a1 : Int) : Option (Bool) :=
  Option.bind (
    (ref40_Valid a0).bind fun y2 =>
    if y2 = true then
      (ref40_in a1 0 1099511627776).bind fun y3 =>
      if y3 = true then
        (ref40_working a0 a1).bind fun y4 =>
        some y4
      else
        some false
    else
      some false) fun v1 =>
  some v1
noncomputable def ref40_Add_l0 (a1 : Int) (a0 : api_Calendar) (s4 : Int × Int) : Option (Lp (Int × Int) (Int ⊕ (Int × Int))) :=
  if (decide (0 < s4.1)) = true then
    (some ((decide ((IntKind.i64.wrap (a1 + 100000)) ≤ s4.2)) || (decide (1099511627776 ≤ s4.2)))).bind fun v5 =>
    if v5 = true then
      some (.out (.inr (0, 41)))
    else
    (ref40_working a0 s4.2).bind fun y6 =>
    if y6 = true then
      some (.go (IntKind.i64.wrap (s4.1 - 1), IntKind.i64.wrap (s4.2 + 1)))
    else
      some (.go (s4.1, IntKind.i64.wrap (s4.2 + 1)))
  else
    some (.out (.inl s4.2))
noncomputable def ref40_Add (a0 : api_Calendar) (a1 : Int) (a2 : Int) : Option (Int × Int) :=
  (ref40_Valid a0).bind fun y1 =>
  if (!y1) = true then
    some (0, 42)
  else
  Option.bind (
    (ref40_in a1 0 1099511627776).bind fun y9 =>
    if (!y9) = true then
      some true
    else
    (ref40_in a2 0 1000).bind fun y10 =>
    some (!y10)) fun v2 =>
  if v2 = true then
    some (0, 2)
  else
  (iter (ref40_Add_l0 a1 a0) (a2, a1)).bind fun q8 =>
  match q8 with
  | .inl v3 =>
    some (v3, 0)
  | .inr r7 =>
    some r7
noncomputable def ref40_Next_l0 (a1 : Int) (a0 : api_Calendar) (s4 : Int) : Option (Lp Int (Unit ⊕ (Int × Int))) :=
  (some ((decide (s4 ≤ (IntKind.i64.wrap (a1 + 100000)))) && (decide (s4 ≤ 1099511627776)))).bind fun v5 =>
  if v5 = true then
    (ref40_working a0 s4).bind fun y6 =>
    if y6 = true then
      some (.out (.inr (s4, 0)))
    else
      some (.go (IntKind.i64.wrap (s4 + 1)))
  else
    some (.out (.inl ()))
noncomputable def ref40_Next (a0 : api_Calendar) (a1 : Int) : Option (Int × Int) :=
  (ref40_Valid a0).bind fun y1 =>
  if (!y1) = true then
    some (0, 42)
  else
  (ref40_in a1 0 1099511627776).bind fun y2 =>
  if (!y2) = true then
    some (0, 2)
  else
  (iter (ref40_Next_l0 a1 a0) a1).bind fun q8 =>
  match q8 with
  | .inl v3 =>
    some (0, 41)
  | .inr r7 =>
    some r7
noncomputable def law40_CalendarExact_j4 (x10 : api_Calendar) (x20 : List Int) (s19 : Int) (v25 : Int) : Option (Lp Int (Unit ⊕ Bool)) :=
  (calendar_Add x10 (arD x20 0) v25).bind fun y26 =>
  (ref40_Add x10 (arD x20 0) v25).bind fun y27 =>
  (some ((y26.1 != y27.1) || (y26.2 != y27.2))).bind fun v28 =>
  if v28 = true then
    some (.out (.inr false))
  else
  (calendar_Next x10 (arD x20 0)).bind fun y29 =>
  (ref40_Next x10 (arD x20 0)).bind fun y30 =>
  (some ((y29.1 != y30.1) || (y29.2 != y30.2))).bind fun v31 =>
  if v31 = true then
    some (.out (.inr false))
  else
    some (.go (IntKind.i64.wrap (s19 + 1)))
noncomputable def law40_CalendarExact_j3 (x10 : api_Calendar) (x20 : List Int) (s19 : Int) (v21 : Int) : Option (Lp Int (Unit ⊕ Bool)) :=
  (calendar_Between x10 (arD x20 0) v21).bind fun y22 =>
  (ref40_Between x10 (arD x20 0) v21).bind fun y23 =>
  Option.bind (
    if (y22.1 != y23.1) = true then
      some true
    else
    if (y22.2 != y23.2) = true then
      some true
    else
    (calendar_Working x10 (arD x20 0)).bind fun y33 =>
    (ref40_Working x10 (arD x20 0)).bind fun y34 =>
    some (y33 != y34)) fun v24 =>
  if v24 = true then
    some (.out (.inr false))
  else
  (some ((decide (20 < (arD x20 2))) && (decide ((arD x20 2) ≤ 1000)))).bind fun v32 =>
  if v32 = true then
    law40_CalendarExact_j4 x10 x20 s19 (((arD x20 2)).tmod 20)
  else
    law40_CalendarExact_j4 x10 x20 s19 (arD x20 2)
noncomputable def law40_CalendarExact_l2 (l17 : List (List Int)) (x10 : api_Calendar) (s19 : Int) : Option (Lp Int (Unit ⊕ Bool)) :=
  if (decide (s19 < 4)) = true then
    (ck (s19 < 4)).bind fun _ =>
    (idx l17 s19).bind fun x20 =>
    (some ((decide (2000 < (IntKind.i64.wrap ((arD x20 1) - (arD x20 0))))) && (decide ((IntKind.i64.wrap ((arD x20 1) - (arD x20 0))) ≤ 100000)))).bind fun v35 =>
    if v35 = true then
      law40_CalendarExact_j3 x10 x20 s19 (IntKind.i64.wrap ((arD x20 0) + 2000))
    else
      law40_CalendarExact_j3 x10 x20 s19 (arD x20 1)
  else
    some (.out (.inl ()))
noncomputable def law40_CalendarExact_l1 (l6 : List api_Calendar) (a2 : Int) (a3 : Int) (a4 : Int) (y5 : Int × make_Tape) (s9 : Int × (List Int) × Int) : Option (Lp (Int × (List Int) × Int) (Unit ⊕ Bool)) :=
  if (decide (s9.1 < 3)) = true then
    (ck (s9.1 < 3)).bind fun _ =>
    (idx l6 s9.1).bind fun x10 =>
    (calendar_Check x10).bind fun y11 =>
    (ref40_Check x10).bind fun y12 =>
    if (y11 != y12) = true then
      some (.out (.inr false))
    else
    (make_Tape_Next (⟨s9.2.1, s9.2.2⟩ : make_Tape) 150).bind fun y13 =>
    (make_Tape_Next y13.2 20).bind fun y14 =>
    (make_Tape_Next y14.2 40).bind fun y15 =>
    (make_Tape_Next y15.2 20).bind fun y16 =>
    (some [[a2, a3, a4], [y5.1, IntKind.i64.wrap (y5.1 + y13.1), y14.1], [a2, IntKind.i64.wrap (a2 + 300), 2], [IntKind.i64.wrap (1099511627776 - y15.1), 1099511627776, y16.1]]).bind fun l17 =>
    (iter (law40_CalendarExact_l2 l17 x10) 0).bind fun q37 =>
    match q37 with
    | .inl v18 =>
      some (.go (IntKind.i64.wrap (s9.1 + 1), y16.2.L, y16.2.at_))
    | .inr r36 =>
      some (.out (.inr r36))
  else
    some (.out (.inl ()))
noncomputable def law40_CalendarExact_j0 (y3 : api_Calendar × make_Tape) (a1 : api_Calendar) (a2 : Int) (a3 : Int) (a4 : Int) (v4 : (List Int) × Int × Int × Int × Int × Int × (List Int)) : Option Bool :=
  (make_Tape_Next (⟨v4.1, v4.2.1⟩ : make_Tape) 200).bind fun y5 =>
  (some [y3.1, (⟨v4.2.2.1, v4.2.2.2.1, v4.2.2.2.2.1, v4.2.2.2.2.2.1, v4.2.2.2.2.2.2⟩ : api_Calendar), a1]).bind fun l6 =>
  (iter (law40_CalendarExact_l1 l6 a2 a3 a4 y5) (0, y5.2.L, y5.2.at_)).bind fun q39 =>
  match q39 with
  | .inl v7 =>
    (law40_awake).bind fun y8 =>
    some y8
  | .inr r38 =>
    some r38
noncomputable def law40_CalendarExact (a0 : List Int) (a1 : api_Calendar) (a2 : Int) (a3 : Int) (a4 : Int) : Option (Bool) :=
  (some ((decide (200 < ((a0).length : Int))) || (decide (60 < ((a1.Holidays).length : Int))))).bind fun v1 =>
  if v1 = true then
    (law40_awake).bind fun y2 =>
    some y2
  else
  (make_Calendar (⟨a0, 0⟩ : make_Tape)).bind fun y3 =>
  (make_Tape_Next y3.2 6).bind fun y40 =>
  if (y40.1 == 0) = true then
    (make_Tape_Between y40.2 0 49).bind fun y41 =>
    law40_CalendarExact_j0 y3 a1 a2 a3 a4 (y41.2.L, y41.2.at_, y41.1, y3.1.From, y3.1.To, y3.1.Week, y3.1.Holidays)
  else
  if (y40.1 == 1) = true then
    (make_Tape_Between y40.2 (-1) 13).bind fun y42 =>
    law40_CalendarExact_j0 y3 a1 a2 a3 a4 (y42.2.L, y42.2.at_, y3.1.Day, y42.1, y3.1.To, y3.1.Week, y3.1.Holidays)
  else
  if (y40.1 == 2) = true then
    (make_Tape_Between y40.2 (-1) 14).bind fun y43 =>
    law40_CalendarExact_j0 y3 a1 a2 a3 a4 (y43.2.L, y43.2.at_, y3.1.Day, y3.1.From, y43.1, y3.1.Week, y3.1.Holidays)
  else
  if (y40.1 == 3) = true then
    (make_Pick y40.2 [(-1), 128, 0, 64]).bind fun y44 =>
    law40_CalendarExact_j0 y3 a1 a2 a3 a4 (y44.2.L, y44.2.at_, y3.1.Day, y3.1.From, y3.1.To, y44.1, y3.1.Holidays)
  else
  if (y40.1 == 4) = true then
    (ck ((y3.1.Holidays).length ≤ 268435456)).bind fun _ =>
    (make_Tape_Between y40.2 (-1) 14).bind fun y45 =>
    (ck ((y3.1.Holidays).length + ([y45.1]).length ≤ 268435456)).bind fun _ =>
    law40_CalendarExact_j0 y3 a1 a2 a3 a4 (y45.2.L, y45.2.at_, y3.1.Day, y3.1.From, y3.1.To, y3.1.Week, (y3.1.Holidays ++ [y45.1]))
  else
    law40_CalendarExact_j0 y3 a1 a2 a3 a4 (y40.2.L, y40.2.at_, y3.1.Day, y3.1.From, y3.1.To, y3.1.Week, [3, 3])
noncomputable def law40_CalendarAdds (a0 : List Int) : Option (Bool) :=
  if (decide (200 < ((a0).length : Int))) = true then
    (law40_awake).bind fun y1 =>
    some y1
  else
  (make_Calendar (⟨a0, 0⟩ : make_Tape)).bind fun y2 =>
  (make_Tape_Next y2.2 200).bind fun y3 =>
  (make_Tape_Next y3.2 12).bind fun y4 =>
  (calendar_Add y2.1 y3.1 y4.1).bind fun y5 =>
  (some ((y5.2 != 0) || (decide (y5.1 < y3.1)))).bind fun v6 =>
  if v6 = true then
    some false
  else
  (calendar_Between y2.1 y3.1 y5.1).bind fun y7 =>
  (some ((y7.2 != 0) || (y7.1 != y4.1))).bind fun v8 =>
  if v8 = true then
    some false
  else
  if (y4.1 == 0) = true then
    Option.bind (
      if (y5.1 == y3.1) = true then
        (law40_awake).bind fun y10 =>
        some y10
      else
        some false) fun v9 =>
    some v9
  else
  (calendar_Between y2.1 y3.1 (IntKind.i64.wrap (y5.1 - 1))).bind fun y11 =>
  Option.bind (
    if (y11.2 == 0) = true then
      if (y11.1 == (IntKind.i64.wrap (y4.1 - 1))) = true then
        (calendar_Working y2.1 (IntKind.i64.wrap (y5.1 - 1))).bind fun y13 =>
        if y13 = true then
          (law40_awake).bind fun y14 =>
          some y14
        else
          some false
      else
        some false
    else
      some false) fun v12 =>
  some v12
noncomputable def law40_CalendarParts (a0 : List Int) : Option (Bool) :=
  if (decide (200 < ((a0).length : Int))) = true then
    (law40_awake).bind fun y1 =>
    some y1
  else
  (make_Calendar (⟨a0, 0⟩ : make_Tape)).bind fun y2 =>
  (make_Tape_Next y2.2 200).bind fun y3 =>
  (make_Tape_Next y3.2 8).bind fun y4 =>
  (make_Tape_Next y4.2 8).bind fun y5 =>
  (calendar_Add y2.1 y3.1 y4.1).bind fun y6 =>
  (calendar_Add y2.1 y6.1 y5.1).bind fun y7 =>
  (calendar_Add y2.1 y3.1 (IntKind.i64.wrap (y4.1 + y5.1))).bind fun y8 =>
  (some ((y6.2 != 0) || ((y7.2 != 0) || ((y8.2 != 0) || (y7.1 != y8.1))))).bind fun v9 =>
  if v9 = true then
    some false
  else
  (make_Tape_Next y5.2 60).bind fun y10 =>
  (make_Tape_Next y10.2 60).bind fun y11 =>
  (calendar_Between y2.1 y3.1 (IntKind.i64.wrap (y3.1 + y10.1))).bind fun y12 =>
  (calendar_Between y2.1 (IntKind.i64.wrap (y3.1 + y10.1)) (IntKind.i64.wrap ((IntKind.i64.wrap (y3.1 + y10.1)) + y11.1))).bind fun y13 =>
  (calendar_Between y2.1 y3.1 (IntKind.i64.wrap ((IntKind.i64.wrap (y3.1 + y10.1)) + y11.1))).bind fun y14 =>
  Option.bind (
    if (y12.2 == 0) = true then
      if (y13.2 == 0) = true then
        if (y14.2 == 0) = true then
          if ((IntKind.i64.wrap (y12.1 + y13.1)) == y14.1) = true then
            if (decide (y14.1 ≤ (IntKind.i64.wrap ((IntKind.i64.wrap ((IntKind.i64.wrap (y3.1 + y10.1)) + y11.1)) - y3.1)))) = true then
              (law40_awake).bind fun y16 =>
              some y16
            else
              some false
          else
            some false
        else
          some false
      else
        some false
    else
      some false) fun v15 =>
  some v15
noncomputable def law40_CalendarNext_l0 (y4 : Int × Int) (y2 : api_Calendar × make_Tape) (s10 : Int) : Option (Lp Int (Unit ⊕ Bool)) :=
  if (decide (s10 < y4.1)) = true then
    (calendar_Working y2.1 s10).bind fun y11 =>
    if y11 = true then
      some (.out (.inr false))
    else
      some (.go (IntKind.i64.wrap (s10 + 1)))
  else
    some (.out (.inl ()))
noncomputable def law40_CalendarNext (a0 : List Int) : Option (Bool) :=
  if (decide (200 < ((a0).length : Int))) = true then
    (law40_awake).bind fun y1 =>
    some y1
  else
  (make_Calendar (⟨a0, 0⟩ : make_Tape)).bind fun y2 =>
  (make_Tape_Next y2.2 200).bind fun y3 =>
  (calendar_Next y2.1 y3.1).bind fun y4 =>
  Option.bind (
    if (y4.2 != 0) = true then
      some true
    else
    if (decide (y4.1 < y3.1)) = true then
      some true
    else
    (calendar_Working y2.1 y4.1).bind fun y14 =>
    some (!y14)) fun v5 =>
  if v5 = true then
    some false
  else
  (iter (law40_CalendarNext_l0 y4 y2) y3.1).bind fun q13 =>
  match q13 with
  | .inl v6 =>
    (calendar_Add y2.1 y3.1 1).bind fun y7 =>
    Option.bind (
      if (y7.2 == 0) = true then
        if (y7.1 == (IntKind.i64.wrap (y4.1 + 1))) = true then
          (law40_awake).bind fun y9 =>
          some y9
        else
          some false
      else
        some false) fun v8 =>
    some v8
  | .inr r12 =>
    some r12
noncomputable def law40_CalendarHolidays_l1 (y2 : api_Calendar × make_Tape) (y11 : Int × make_Tape) (y12 : Bool) (s15 : Int) : Option (Lp Int (Unit ⊕ Bool)) :=
  if (decide (s15 < y2.1.To)) = true then
    (calendar_Working y2.1 (IntKind.i64.wrap ((IntKind.i64.wrap (y11.1 * y2.1.Day)) + s15))).bind fun y16 =>
    if (y16 != y12) = true then
      some (.out (.inr false))
    else
      some (.go (IntKind.i64.wrap (s15 + 1)))
  else
    some (.out (.inl ()))
noncomputable def law40_CalendarHolidays_j0 (y2 : api_Calendar × make_Tape) (y3 : Int × make_Tape) (y4 : Int × make_Tape) (y5 : Int × Int) (v6 : (List Int)) : Option Bool :=
  (calendar_Add (⟨y2.1.Day, y2.1.From, y2.1.To, y2.1.Week, v6⟩ : api_Calendar) y3.1 y4.1).bind fun y7 =>
  (calendar_Add (⟨y2.1.Day, y2.1.From, y2.1.To, y2.1.Week, []⟩ : api_Calendar) y3.1 y4.1).bind fun y8 =>
  (calendar_Add (⟨y2.1.Day, y2.1.From, y2.1.To, y2.1.Week, []⟩ : api_Calendar) (IntKind.i64.wrap (y3.1 + (IntKind.i64.wrap (7 * y2.1.Day)))) y4.1).bind fun y9 =>
  (some ((y5.2 != 0) || ((y7.2 != 0) || ((y8.2 != 0) || ((y9.2 != 0) || ((decide (y5.1 < y7.1)) || ((decide (y7.1 < y8.1)) || (y9.1 != (IntKind.i64.wrap (y8.1 + (IntKind.i64.wrap (7 * y2.1.Day)))))))))))).bind fun v10 =>
  if v10 = true then
    some false
  else
  (make_Tape_Next y4.2 20).bind fun y11 =>
  (calendar_Working y2.1 (IntKind.i64.wrap ((IntKind.i64.wrap (y11.1 * y2.1.Day)) + y2.1.From))).bind fun y12 =>
  (iter (law40_CalendarHolidays_l1 y2 y11 y12) y2.1.From).bind fun q18 =>
  match q18 with
  | .inl v13 =>
    (law40_awake).bind fun y14 =>
    some y14
  | .inr r17 =>
    some r17
noncomputable def law40_CalendarHolidays (a0 : List Int) : Option (Bool) :=
  if (decide (200 < ((a0).length : Int))) = true then
    (law40_awake).bind fun y1 =>
    some y1
  else
  (make_Calendar (⟨a0, 0⟩ : make_Tape)).bind fun y2 =>
  (make_Tape_Next y2.2 200).bind fun y3 =>
  (make_Tape_Next y3.2 12).bind fun y4 =>
  (calendar_Add y2.1 y3.1 y4.1).bind fun y5 =>
  if (decide (0 < ((y2.1.Holidays).length : Int))) = true then
    (ck (0 ≤ 1 ∧ 1 ≤ ((y2.1.Holidays).length : Int) ∧ ((y2.1.Holidays).length : Int) ≤ ((y2.1.Holidays).length : Int))).bind fun _ =>
    law40_CalendarHolidays_j0 y2 y3 y4 y5 ((y2.1.Holidays).drop 1)
  else
    law40_CalendarHolidays_j0 y2 y3 y4 y5 y2.1.Holidays
end Go.Vl
