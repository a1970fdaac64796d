/- Plain functions that mirror functions of the given program. Conditions: none. -/
import Derived.Test.YtjnflahicimmlaaHAm
import Derived.Test.YtjnflahicimmlaaHzz
set_option linter.unusedSimpArgs false
set_option linter.unusedVariables false
namespace Go.Vl
open Go
noncomputable def slices_Clone_int (a0 : List Int) : Option (List Int) :=
  (ck ((a0).length ≤ 268435456)).bind fun _ =>
  some a0
noncomputable def cmp_Less_int (a0 : Int) (a1 : Int) : Option (Bool) :=
  Option.bind (
    (cmp_isNaN_int a0).bind fun y2 =>
    if y2 = true then
      (cmp_isNaN_int a1).bind fun y3 =>
      if (!y3) = true then
        some true
      else
        some (decide (a0 < a1))
    else
      some (decide (a0 < a1))) fun v1 =>
  some v1
noncomputable def slices_xorshift_Next (a0 : Int) : Option (Int × Int) :=
  some (bXor .u64 (bXor .u64 (bXor .u64 a0 (IntKind.u64.wrap (a0 * 2 ^ (min 13 IntKind.u64.bits)))) (((bXor .u64 a0 (IntKind.u64.wrap (a0 * 2 ^ (min 13 IntKind.u64.bits))))).fdiv (2 ^ (min 7 IntKind.u64.bits)))) (IntKind.u64.wrap ((bXor .u64 (bXor .u64 a0 (IntKind.u64.wrap (a0 * 2 ^ (min 13 IntKind.u64.bits)))) (((bXor .u64 a0 (IntKind.u64.wrap (a0 * 2 ^ (min 13 IntKind.u64.bits))))).fdiv (2 ^ (min 7 IntKind.u64.bits)))) * 2 ^ (min 17 IntKind.u64.bits))), bXor .u64 (bXor .u64 (bXor .u64 a0 (IntKind.u64.wrap (a0 * 2 ^ (min 13 IntKind.u64.bits)))) (((bXor .u64 a0 (IntKind.u64.wrap (a0 * 2 ^ (min 13 IntKind.u64.bits))))).fdiv (2 ^ (min 7 IntKind.u64.bits)))) (IntKind.u64.wrap ((bXor .u64 (bXor .u64 a0 (IntKind.u64.wrap (a0 * 2 ^ (min 13 IntKind.u64.bits)))) (((bXor .u64 a0 (IntKind.u64.wrap (a0 * 2 ^ (min 13 IntKind.u64.bits))))).fdiv (2 ^ (min 7 IntKind.u64.bits)))) * 2 ^ (min 17 IntKind.u64.bits))))
noncomputable def slices_order2Ordered_int (a0 : List Int) (a1 : Int) (a2 : Int) (a3 : Int) : Option (Int × Int × Int) :=
  (idx a0 a2).bind fun x1 =>
  (idx a0 a1).bind fun x2 =>
  (cmp_Less_int x1 x2).bind fun y3 =>
  if y3 = true then
    some (a2, a1, IntKind.i64.wrap (a3 + 1))
  else
    some (a1, a2, a3)
noncomputable def slices_medianOrdered_int (a0 : List Int) (a1 : Int) (a2 : Int) (a3 : Int) (a4 : Int) : Option (Int × Int) :=
  (slices_order2Ordered_int a0 a1 a2 a4).bind fun y1 =>
  (slices_order2Ordered_int a0 y1.2.1 a3 y1.2.2).bind fun y2 =>
  (slices_order2Ordered_int a0 y1.1 y2.1 y2.2.2).bind fun y3 =>
  some (y3.2.1, y3.2.2)
noncomputable def slices_medianAdjacentOrdered_int (a0 : List Int) (a1 : Int) (a2 : Int) : Option (Int × Int) :=
  (slices_medianOrdered_int a0 (IntKind.i64.wrap (a1 - 1)) a1 (IntKind.i64.wrap (a1 + 1)) a2).bind fun y1 =>
  some (y1.1, y1.2)
noncomputable def slices_choosePivotOrdered_int_j0  (v1 : Int × Int) : Option (Int × Int) :=
  if (v1.2 == 0) = true then
    some (v1.1, 1)
  else
  if (v1.2 == 12) = true then
    some (v1.1, 2)
  else
    some (v1.1, 0)
noncomputable def slices_choosePivotOrdered_int_j1 (a0 : List Int) (v2 : Int × Int × Int × Int) : Option (Int × Int) :=
  (slices_medianOrdered_int a0 v2.1 v2.2.1 v2.2.2.1 v2.2.2.2).bind fun y3 =>
  slices_choosePivotOrdered_int_j0 (y3.1, y3.2)
noncomputable def slices_choosePivotOrdered_int (a0 : List Int) (a1 : Int) (a2 : Int) : Option (Int × Int) :=
  if (decide (8 ≤ (IntKind.i64.wrap (a2 - a1)))) = true then
    if (decide (50 ≤ (IntKind.i64.wrap (a2 - a1)))) = true then
      (slices_medianAdjacentOrdered_int a0 (IntKind.i64.wrap (a1 + (IntKind.i64.wrap ((IntKind.i64.wrap (((IntKind.i64.wrap (a2 - a1))).tdiv 4)) * 1)))) 0).bind fun y4 =>
      (slices_medianAdjacentOrdered_int a0 (IntKind.i64.wrap (a1 + (IntKind.i64.wrap ((IntKind.i64.wrap (((IntKind.i64.wrap (a2 - a1))).tdiv 4)) * 2)))) y4.2).bind fun y5 =>
      (slices_medianAdjacentOrdered_int a0 (IntKind.i64.wrap (a1 + (IntKind.i64.wrap ((IntKind.i64.wrap (((IntKind.i64.wrap (a2 - a1))).tdiv 4)) * 3)))) y5.2).bind fun y6 =>
      slices_choosePivotOrdered_int_j1 a0 (y4.1, y5.1, y6.1, y6.2)
    else
      slices_choosePivotOrdered_int_j1 a0 (IntKind.i64.wrap (a1 + (IntKind.i64.wrap ((IntKind.i64.wrap (((IntKind.i64.wrap (a2 - a1))).tdiv 4)) * 1))), IntKind.i64.wrap (a1 + (IntKind.i64.wrap ((IntKind.i64.wrap (((IntKind.i64.wrap (a2 - a1))).tdiv 4)) * 2))), IntKind.i64.wrap (a1 + (IntKind.i64.wrap ((IntKind.i64.wrap (((IntKind.i64.wrap (a2 - a1))).tdiv 4)) * 3))), 0)
  else
    slices_choosePivotOrdered_int_j0 (IntKind.i64.wrap (a1 + (IntKind.i64.wrap ((IntKind.i64.wrap (((IntKind.i64.wrap (a2 - a1))).tdiv 4)) * 2))), 0)
noncomputable def law15_HistoryLater_l2 (y1 : api_Repository × make_Tape) (l6 : List api_RefEvent) (s12 : Int) : Option (Lp Int (Unit ⊕ Bool)) :=
  if (decide (s12 < ((y1.1.Objects).length : Int))) = true then
    (idx y1.1.Objects s12).bind fun x13 =>
    (history_Since y1.1 x13.ID).bind fun y14 =>
    (history_Since (⟨y1.1.Objects, l6⟩ : api_Repository) x13.ID).bind fun y15 =>
    (some (y14.2 && ((!y15.2) || (y14.1 != y15.1)))).bind fun v16 =>
    if v16 = true then
      some (.out (.inr false))
    else
      some (.go (IntKind.i64.wrap (s12 + 1)))
  else
    some (.out (.inl ()))
noncomputable def law15_HistoryLater_l1 (y1 : api_Repository × make_Tape) (s19 : Int × (List Int)) : Option (Lp (Int × (List Int)) (List Int)) :=
  if (decide (s19.1 < ((y1.1.Objects).length : Int))) = true then
    (idx y1.1.Objects s19.1).bind fun x20 =>
    if (x20.Kind == 3) = true then
      (ck ((s19.2).length + ([x20.ID]).length ≤ 268435456)).bind fun _ =>
      some (.go (IntKind.i64.wrap (s19.1 + 1), (s19.2 ++ [x20.ID])))
    else
      some (.go (IntKind.i64.wrap (s19.1 + 1), s19.2))
  else
    some (.out s19.2)
noncomputable def law15_HistoryLater_j0 (y1 : api_Repository × make_Tape) (a1 : Int) (v2 : Int) : Option Bool :=
  (iter (law15_HistoryLater_l1 y1) (0, [])).bind fun v3 =>
  (ck (((v3).length : Int) ≠ 0)).bind fun _ =>
  (ck (0 ≤ ((bAnd .i64 a1 255)).tmod ((v3).length : Int) ∧ (Int.toNat (((bAnd .i64 a1 255)).tmod ((v3).length : Int))) < (v3).length)).bind fun _ =>
  (idx v3 (((bAnd .i64 a1 255)).tmod ((v3).length : Int))).bind fun x4 =>
  (ck ((([] : List api_RefEvent)).length + (y1.1.Events).length ≤ 268435456)).bind fun _ =>
  (make_Tape_Next y1.2 5).bind fun y5 =>
  (ck (((([] : List api_RefEvent) ++ y1.1.Events)).length + ([(⟨1, (⟨#[110, 101, 119]⟩ : ByteArray), x4, IntKind.i64.wrap ((IntKind.i64.wrap (v2 + 1)) + y5.1)⟩ : api_RefEvent)]).length ≤ 268435456)).bind fun _ =>
  (some (((([] : List api_RefEvent) ++ y1.1.Events) ++ [(⟨1, (⟨#[110, 101, 119]⟩ : ByteArray), x4, IntKind.i64.wrap ((IntKind.i64.wrap (v2 + 1)) + y5.1)⟩ : api_RefEvent)]) : List api_RefEvent)).bind fun l6 =>
  (iter (law15_HistoryLater_l2 y1 l6) 0).bind fun q18 =>
  match q18 with
  | .inl v7 =>
    (history_Since (⟨y1.1.Objects, l6⟩ : api_Repository) x4).bind fun y8 =>
    Option.bind (
      if y8.2 = true then
        (history_Ever (⟨y1.1.Objects, l6⟩ : api_Repository)).bind fun y10 =>
        (history_Ever y1.1).bind fun y11 =>
        some (decide (((y11).length : Int) ≤ ((y10).length : Int)))
      else
        some false) fun v9 =>
    some v9
  | .inr r17 =>
    some r17
noncomputable def law15_HistoryLater (a0 : List Int) (a1 : Int) : Option (Bool) :=
  (make_Repository (⟨a0, 0⟩ : make_Tape)).bind fun y1 =>
  if (decide (0 < ((y1.1.Events).length : Int))) = true then
    (idx y1.1.Events (IntKind.i64.wrap (((y1.1.Events).length : Int) - 1))).bind fun x21 =>
    law15_HistoryLater_j0 y1 a1 x21.Time
  else
    law15_HistoryLater_j0 y1 a1 0
noncomputable def law15_awake  : Option (Bool) :=
  Option.bind (
    (history_Reachable (⟨[(⟨1, 2, [], [], 0, [], ByteArray.empty, 0⟩ : api_Object), (⟨2, 3, [], [], 1, [], (⟨#[97]⟩ : ByteArray), 0⟩ : api_Object), (⟨3, 3, [], [], 1, [], (⟨#[98]⟩ : ByteArray), 0⟩ : api_Object)], [(⟨1, (⟨#[109]⟩ : ByteArray), 2, 5⟩ : api_RefEvent), (⟨1, (⟨#[109]⟩ : ByteArray), 3, 9⟩ : api_RefEvent)]⟩ : api_Repository) 8).bind fun y2 =>
    if (((y2).length : Int) == 2) = true then
      (history_Lost (⟨[(⟨1, 2, [], [], 0, [], ByteArray.empty, 0⟩ : api_Object), (⟨2, 3, [], [], 1, [], (⟨#[97]⟩ : ByteArray), 0⟩ : api_Object), (⟨3, 3, [], [], 1, [], (⟨#[98]⟩ : ByteArray), 0⟩ : api_Object)], [(⟨1, (⟨#[109]⟩ : ByteArray), 2, 5⟩ : api_RefEvent), (⟨1, (⟨#[109]⟩ : ByteArray), 3, 9⟩ : api_RefEvent)]⟩ : api_Repository) 9).bind fun y3 =>
      if (((y3).length : Int) == 1) = true then
        (history_Lost (⟨[(⟨1, 2, [], [], 0, [], ByteArray.empty, 0⟩ : api_Object), (⟨2, 3, [], [], 1, [], (⟨#[97]⟩ : ByteArray), 0⟩ : api_Object), (⟨3, 3, [], [], 1, [], (⟨#[98]⟩ : ByteArray), 0⟩ : api_Object)], [(⟨1, (⟨#[109]⟩ : ByteArray), 2, 5⟩ : api_RefEvent), (⟨1, (⟨#[109]⟩ : ByteArray), 3, 9⟩ : api_RefEvent)]⟩ : api_Repository) 9).bind fun y4 =>
        (idx y4 0).bind fun x5 =>
        some (x5 == 2)
      else
        some false
    else
      some false) fun v1 =>
  some v1
noncomputable def law15_HistoryCycles_l0 (a0 : Int) (s6 : Int × (List api_Object) × (List api_Object)) : Option (Lp (Int × (List api_Object) × (List api_Object)) ((List api_Object) × (List api_Object))) :=
  if (decide (s6.1 ≤ (IntKind.i64.wrap (1 + (bAnd .i64 a0 3))))) = true then
    (ck ((IntKind.i64.wrap (1 + (bAnd .i64 a0 3))) ≠ 0)).bind fun _ =>
    (ck ((s6.2.1).length + ([(⟨s6.1, 2, [], [(⟨(⟨#[100]⟩ : ByteArray), IntKind.i64.wrap (1 + ((s6.1).tmod (IntKind.i64.wrap (1 + (bAnd .i64 a0 3)))))⟩ : api_Item)], 0, [], ByteArray.empty, 0⟩ : api_Object)]).length ≤ 268435456)).bind fun _ =>
    (ck ((IntKind.i64.wrap (1 + (bAnd .i64 a0 3))) ≠ 0)).bind fun _ =>
    (ck ((s6.2.2).length + ([(⟨s6.1, 3, [], [], 9, [IntKind.i64.wrap (1 + ((s6.1).tmod (IntKind.i64.wrap (1 + (bAnd .i64 a0 3)))))], (⟨#[97]⟩ : ByteArray), 0⟩ : api_Object)]).length ≤ 268435456)).bind fun _ =>
    some (.go (IntKind.i64.wrap (s6.1 + 1), (s6.2.1 ++ [(⟨s6.1, 2, [], [(⟨(⟨#[100]⟩ : ByteArray), IntKind.i64.wrap (1 + ((s6.1).tmod (IntKind.i64.wrap (1 + (bAnd .i64 a0 3)))))⟩ : api_Item)], 0, [], ByteArray.empty, 0⟩ : api_Object)]), (s6.2.2 ++ [(⟨s6.1, 3, [], [], 9, [IntKind.i64.wrap (1 + ((s6.1).tmod (IntKind.i64.wrap (1 + (bAnd .i64 a0 3)))))], (⟨#[97]⟩ : ByteArray), 0⟩ : api_Object)])))
  else
    some (.out (s6.2.1, s6.2.2))
noncomputable def law15_HistoryCycles (a0 : Int) : Option (Bool) :=
  (iter (law15_HistoryCycles_l0 a0) (1, [], [])).bind fun v1 =>
  (ck ((v1.2).length + ([(⟨9, 2, [], [], 0, [], ByteArray.empty, 0⟩ : api_Object)]).length ≤ 268435456)).bind fun _ =>
  Option.bind (
    (history_Valid (⟨v1.1, []⟩ : api_Repository)).bind fun y3 =>
    if (y3 == 8) = true then
      (history_Valid (⟨(v1.2 ++ [(⟨9, 2, [], [], 0, [], ByteArray.empty, 0⟩ : api_Object)]), []⟩ : api_Repository)).bind fun y4 =>
      if (y4 == 8) = true then
        (law15_awake).bind fun y5 =>
        some y5
      else
        some false
    else
      some false) fun v2 =>
  some v2
noncomputable def law15_HistoryGrows_l2 (y2 : (List Int)) (y3 : (List Int)) (l7 : List Int) (v5 : (List (Int × Bool))) (s11 : Int × (List (Int × Bool))) : Option (Lp (Int × (List (Int × Bool))) (Unit ⊕ Bool)) :=
  if (decide (s11.1 < (((y2 ++ y3)).length : Int))) = true then
    (ck (0 ≤ s11.1 ∧ (Int.toNat s11.1) < (l7).length)).bind fun _ =>
    (idx l7 s11.1).bind fun x12 =>
    (some (((mget inE s11.2 x12).getD false) || (!((mget inE v5 x12).getD false)))).bind fun v13 =>
    if v13 = true then
      some (.out (.inr false))
    else
      some (.go (IntKind.i64.wrap (s11.1 + 1), (mset inE s11.2 x12 true)))
  else
    some (.out (.inl ()))
noncomputable def law15_HistoryGrows_l1 (y1 : api_Repository × make_Tape) (v5 : (List (Int × Bool))) (a1 : Int) (s16 : Int × Int) : Option (Lp (Int × Int) (Int ⊕ Bool)) :=
  if (decide (s16.2 < ((y1.1.Objects).length : Int))) = true then
    (idx y1.1.Objects s16.2).bind fun x17 =>
    (history_Since y1.1 x17.ID).bind fun y18 =>
    if (y18.2 != ((mget inE v5 x17.ID).getD false)) = true then
      some (.out (.inr false))
    else
    (some (y18.2 && (decide (y18.1 ≤ (bAnd .i64 a1 31))))).bind fun v19 =>
    if v19 = true then
      some (.go (IntKind.i64.wrap (s16.1 + 1), IntKind.i64.wrap (s16.2 + 1)))
    else
      some (.go (s16.1, IntKind.i64.wrap (s16.2 + 1)))
  else
    some (.out (.inl s16.1))
noncomputable def law15_HistoryGrows_l0 (y4 : (List Int)) (s22 : Int × (List (Int × Bool))) : Option (Lp (Int × (List (Int × Bool))) (List (Int × Bool))) :=
  if (decide (s22.1 < ((y4).length : Int))) = true then
    (idx y4 s22.1).bind fun x23 =>
    some (.go (IntKind.i64.wrap (s22.1 + 1), (mset inE s22.2 x23 true)))
  else
    some (.out s22.2)
noncomputable def law15_HistoryGrows (a0 : List Int) (a1 : Int) : Option (Bool) :=
  (make_Repository (⟨a0, 0⟩ : make_Tape)).bind fun y1 =>
  (history_Reachable y1.1 (bAnd .i64 a1 31)).bind fun y2 =>
  (history_Lost y1.1 (bAnd .i64 a1 31)).bind fun y3 =>
  (history_Ever y1.1).bind fun y4 =>
  (iter (law15_HistoryGrows_l0 y4) (0, [])).bind fun v5 =>
  (iter (law15_HistoryGrows_l1 y1 v5 a1) (0, 0)).bind fun q21 =>
  match q21 with
  | .inl v6 =>
    (ck ((([] : List Int)).length + (y2).length ≤ 268435456)).bind fun _ =>
    (ck ((y2).length + (y3).length ≤ 268435456)).bind fun _ =>
    (some ((y2 ++ y3) : List Int)).bind fun l7 =>
    (iter (law15_HistoryGrows_l2 y2 y3 l7 v5) (0, [])).bind fun q15 =>
    match q15 with
    | .inl v8 =>
      Option.bind (
        if (v6 == (IntKind.i64.wrap (((y2).length : Int) + ((y3).length : Int)))) = true then
          (law15_awake).bind fun y10 =>
          some y10
        else
          some false) fun v9 =>
      some v9
    | .inr r14 =>
      some r14
  | .inr r20 =>
    some r20
noncomputable def law15_HistoryClosed_l4 (x9 : api_Object) (v3 : (List (Int × Bool))) (s13 : Int) : Option (Lp Int (Unit ⊕ Bool)) :=
  if (decide (s13 < ((x9.Items).length : Int))) = true then
    (idx x9.Items s13).bind fun x14 =>
    if (!((mget inE v3 x14.ID).getD false)) = true then
      some (.out (.inr false))
    else
      some (.go (IntKind.i64.wrap (s13 + 1)))
  else
    some (.out (.inl ()))
noncomputable def law15_HistoryClosed_l3 (x9 : api_Object) (v3 : (List (Int × Bool))) (s17 : Int) : Option (Lp Int (Unit ⊕ Bool)) :=
  if (decide (s17 < ((x9.Parents).length : Int))) = true then
    (idx x9.Parents s17).bind fun x18 =>
    if (!((mget inE v3 x18).getD false)) = true then
      some (.out (.inr false))
    else
      some (.go (IntKind.i64.wrap (s17 + 1)))
  else
    some (.out (.inl ()))
noncomputable def law15_HistoryClosed_l2 (y1 : api_Repository × make_Tape) (v3 : (List (Int × Bool))) (s8 : Int) : Option (Lp Int (Unit ⊕ Bool)) :=
  if (decide (s8 < ((y1.1.Objects).length : Int))) = true then
    (idx y1.1.Objects s8).bind fun x9 =>
    if (!((mget inE v3 x9.ID).getD false)) = true then
      some (.go (IntKind.i64.wrap (s8 + 1)))
    else
    (some ((x9.Kind == 3) && (!((mget inE v3 x9.Tree).getD false)))).bind fun v10 =>
    if v10 = true then
      some (.out (.inr false))
    else
    (iter (law15_HistoryClosed_l3 x9 v3) 0).bind fun q20 =>
    match q20 with
    | .inl v11 =>
      (iter (law15_HistoryClosed_l4 x9 v3) 0).bind fun q16 =>
      match q16 with
      | .inl v12 =>
        some (.go (IntKind.i64.wrap (s8 + 1)))
      | .inr r15 =>
        some (.out (.inr r15))
    | .inr r19 =>
      some (.out (.inr r19))
  else
    some (.out (.inl ()))
noncomputable def law15_HistoryClosed_l1 (y4 : (List api_Item)) (v3 : (List (Int × Bool))) (s23 : Int) : Option (Lp Int (Unit ⊕ Bool)) :=
  if (decide (s23 < ((y4).length : Int))) = true then
    (idx y4 s23).bind fun x24 =>
    if (!((mget inE v3 x24.ID).getD false)) = true then
      some (.out (.inr false))
    else
      some (.go (IntKind.i64.wrap (s23 + 1)))
  else
    some (.out (.inl ()))
noncomputable def law15_HistoryClosed_l0 (y2 : (List Int)) (s27 : Int × (List (Int × Bool))) : Option (Lp (Int × (List (Int × Bool))) (List (Int × Bool))) :=
  if (decide (s27.1 < ((y2).length : Int))) = true then
    (idx y2 s27.1).bind fun x28 =>
    some (.go (IntKind.i64.wrap (s27.1 + 1), (mset inE s27.2 x28 true)))
  else
    some (.out s27.2)
noncomputable def law15_HistoryClosed (a0 : List Int) (a1 : Int) : Option (Bool) :=
  (make_Repository (⟨a0, 0⟩ : make_Tape)).bind fun y1 =>
  (history_Reachable y1.1 (bAnd .i64 a1 31)).bind fun y2 =>
  (iter (law15_HistoryClosed_l0 y2) (0, [])).bind fun v3 =>
  (history_Refs y1.1 (bAnd .i64 a1 31)).bind fun y4 =>
  (iter (law15_HistoryClosed_l1 y4 v3) 0).bind fun q26 =>
  match q26 with
  | .inl v5 =>
    (iter (law15_HistoryClosed_l2 y1 v3) 0).bind fun q22 =>
    match q22 with
    | .inl v6 =>
      (law15_awake).bind fun y7 =>
      some y7
    | .inr r21 =>
      some r21
  | .inr r25 =>
    some r25
noncomputable def law15_HistoryPrefix_l1 (v3 : Int) (y1 : api_Repository × make_Tape) (a1 : Int) (s6 : Int) : Option (Lp Int (Unit ⊕ Bool)) :=
  if (decide (s6 ≤ v3)) = true then
    Option.bind (
      (history_Reachable y1.1 s6).bind fun y8 =>
      (history_Reachable (⟨y1.1.Objects, ((y1.1.Events).take (Int.toNat (((bAnd .i64 a1 255)).tmod (IntKind.i64.wrap (((y1.1.Events).length : Int) + 1)))))⟩ : api_Repository) s6).bind fun y9 =>
      (ref15_Ints y8 y9).bind fun y10 =>
      if (!y10) = true then
        some true
      else
      (history_Refs y1.1 s6).bind fun y11 =>
      (history_Refs (⟨y1.1.Objects, ((y1.1.Events).take (Int.toNat (((bAnd .i64 a1 255)).tmod (IntKind.i64.wrap (((y1.1.Events).length : Int) + 1)))))⟩ : api_Repository) s6).bind fun y12 =>
      (ref15_Items y11 y12).bind fun y13 =>
      some (!y13)) fun v7 =>
    if v7 = true then
      some (.out (.inr false))
    else
      some (.go (IntKind.i64.wrap (s6 + 1)))
  else
    some (.out (.inl ()))
noncomputable def law15_HistoryPrefix_j0 (y1 : api_Repository × make_Tape) (a1 : Int) (v3 : Int) : Option Bool :=
  (iter (law15_HistoryPrefix_l1 v3 y1 a1) 0).bind fun q15 =>
  match q15 with
  | .inl v4 =>
    (law15_awake).bind fun y5 =>
    some y5
  | .inr r14 =>
    some r14
noncomputable def law15_HistoryPrefix (a0 : List Int) (a1 : Int) : Option (Bool) :=
  (make_Repository (⟨a0, 0⟩ : make_Tape)).bind fun y1 =>
  (ck ((IntKind.i64.wrap (((y1.1.Events).length : Int) + 1)) ≠ 0)).bind fun _ =>
  (ck (0 ≤ 0 ∧ 0 ≤ ((bAnd .i64 a1 255)).tmod (IntKind.i64.wrap (((y1.1.Events).length : Int) + 1)) ∧ ((bAnd .i64 a1 255)).tmod (IntKind.i64.wrap (((y1.1.Events).length : Int) + 1)) ≤ ((y1.1.Events).length : Int))).bind fun _ =>
  (history_Valid (⟨y1.1.Objects, ((y1.1.Events).take (Int.toNat (((bAnd .i64 a1 255)).tmod (IntKind.i64.wrap (((y1.1.Events).length : Int) + 1)))))⟩ : api_Repository)).bind fun y2 =>
  if (y2 != 0) = true then
    some false
  else
  if (decide ((((bAnd .i64 a1 255)).tmod (IntKind.i64.wrap (((y1.1.Events).length : Int) + 1))) < ((y1.1.Events).length : Int))) = true then
    (idx y1.1.Events (((bAnd .i64 a1 255)).tmod (IntKind.i64.wrap (((y1.1.Events).length : Int) + 1)))).bind fun x16 =>
    law15_HistoryPrefix_j0 y1 a1 (IntKind.i64.wrap (x16.Time - 1))
  else
  if (decide (0 < (((bAnd .i64 a1 255)).tmod (IntKind.i64.wrap (((y1.1.Events).length : Int) + 1))))) = true then
    (idx y1.1.Events (IntKind.i64.wrap ((((bAnd .i64 a1 255)).tmod (IntKind.i64.wrap (((y1.1.Events).length : Int) + 1))) - 1))).bind fun x17 =>
    law15_HistoryPrefix_j0 y1 a1 x17.Time
  else
    law15_HistoryPrefix_j0 y1 a1 (-1)
end Go.Vl
