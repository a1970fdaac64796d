/- Plain functions that mirror functions of the given program. Conditions: none. -/
import Derived.Test.YtjnflahicimmlaaDoorD0m
import Derived.Test.YtjnflahicimmlaaDoorDf
set_option linter.unusedSimpArgs false
set_option linter.unusedVariables false
namespace Go.Vl
open Go
noncomputable def object_Number (a0 : Int) : Option (Bool) :=
  (some ((decide (1 ≤ a0)) && (decide (a0 ≤ 1073741824)))).bind fun v1 =>
  some v1
noncomputable def object_Name_l0 (a0 : ByteArray) (s3 : Int) : Option (Lp Int (Unit ⊕ Bool)) :=
  if (decide (s3 < (((sbytes a0)).length : Int))) = true then
    (idx (sbytes a0) s3).bind fun x4 =>
    (some ((decide (x4 < 33)) || ((decide (126 < x4)) || (x4 == 47)))).bind fun v5 =>
    if v5 = true then
      some (.out (.inr false))
    else
      some (.go (IntKind.i64.wrap (s3 + 1)))
  else
    some (.out (.inl ()))
noncomputable def object_Name (a0 : ByteArray) : Option (Bool) :=
  (iter (object_Name_l0 a0) 0).bind fun q7 =>
  match q7 with
  | .inl v1 =>
    (some ((decide (1 ≤ ((a0).size : Int))) && (decide (((a0).size : Int) ≤ 40)))).bind fun v2 =>
    some v2
  | .inr r6 =>
    some r6
noncomputable def object_tree_l0 (a0 : api_Object) (s2 : Int) : Option (Lp Int (Unit ⊕ Bool)) :=
  if (decide (s2 < ((a0.Items).length : Int))) = true then
    (idx a0.Items s2).bind fun x3 =>
    Option.bind (
      (object_Name x3.Name).bind fun y5 =>
      if (!y5) = true then
        some true
      else
      (object_Number x3.ID).bind fun y6 =>
      if (!y6) = true then
        some true
      else
      if (decide (0 < s2)) = true then
        (idx a0.Items (IntKind.i64.wrap (s2 - 1))).bind fun x7 =>
        some (!(Op.bytesLess (x7.Name).toList (x3.Name).toList))
      else
        some false) fun v4 =>
    if v4 = true then
      some (.out (.inr false))
    else
      some (.go (IntKind.i64.wrap (s2 + 1)))
  else
    some (.out (.inl ()))
noncomputable def object_tree (a0 : api_Object) : Option (Bool) :=
  (iter (object_tree_l0 a0) 0).bind fun q9 =>
  match q9 with
  | .inl v1 =>
    some true
  | .inr r8 =>
    some r8
noncomputable def slices_Index_int_l0 (a0 : List Int) (a1 : Int) (s2 : Int) : Option (Lp Int (Unit ⊕ Int)) :=
  if (decide (s2 < ((a0).length : Int))) = true then
    (idx a0 s2).bind fun x3 =>
    if (a1 == x3) = true then
      some (.out (.inr s2))
    else
      some (.go (IntKind.i64.wrap (s2 + 1)))
  else
    some (.out (.inl ()))
noncomputable def slices_Index_int (a0 : List Int) (a1 : Int) : Option (Int) :=
  (iter (slices_Index_int_l0 a0 a1) 0).bind fun q5 =>
  match q5 with
  | .inl v1 =>
    some (-1)
  | .inr r4 =>
    some r4
noncomputable def slices_Contains_int (a0 : List Int) (a1 : Int) : Option (Bool) :=
  (slices_Index_int a0 a1).bind fun y1 =>
  some (decide (0 ≤ y1))
noncomputable def object_commit_l0 (a0 : api_Object) (s5 : Int) : Option (Lp Int (Unit ⊕ Bool)) :=
  if (decide (s5 < ((a0.Parents).length : Int))) = true then
    (idx a0.Parents s5).bind fun x6 =>
    Option.bind (
      (object_Number x6).bind fun y8 =>
      if (!y8) = true then
        some true
      else
      (ck (0 ≤ 0 ∧ 0 ≤ s5 ∧ s5 ≤ ((a0.Parents).length : Int))).bind fun _ =>
      (slices_Contains_int ((a0.Parents).take (Int.toNat s5)) x6).bind fun y9 =>
      some y9) fun v7 =>
    if v7 = true then
      some (.out (.inr false))
    else
      some (.go (IntKind.i64.wrap (s5 + 1)))
  else
    some (.out (.inl ()))
noncomputable def object_commit (a0 : api_Object) : Option (Bool) :=
  (iter (object_commit_l0 a0) 0).bind fun q11 =>
  match q11 with
  | .inl v1 =>
    Option.bind (
      (object_Number a0.Tree).bind fun y3 =>
      if y3 = true then
        (object_Name a0.Author).bind fun y4 =>
        if y4 = true then
          if (decide (0 ≤ a0.Time)) = true then
            some (decide (a0.Time ≤ 1099511627776))
          else
            some false
        else
          some false
      else
        some false) fun v2 =>
    some v2
  | .inr r10 =>
    some r10
noncomputable def object_right (a0 : api_Object) : Option (Bool) :=
  (some ((a0.Tree != 0) || ((decide (0 < ((a0.Parents).length : Int))) || ((!((a0.Author).toList == ((⟨#[]⟩ : ByteArray)).toList)) || (a0.Time != 0))))).bind fun v1 =>
  if (a0.Kind == 1) = true then
    (some ((((a0.Items).length : Int) == 0) && (!v1))).bind fun v2 =>
    some v2
  else
  if (a0.Kind == 2) = true then
    Option.bind (
      if (((a0.Data).length : Int) == 0) = true then
        if (!v1) = true then
          (object_tree a0).bind fun y4 =>
          some y4
        else
          some false
      else
        some false) fun v3 =>
    some v3
  else
  if (a0.Kind == 3) = true then
    Option.bind (
      if (((a0.Data).length : Int) == 0) = true then
        if (((a0.Items).length : Int) == 0) = true then
          (object_commit a0).bind fun y6 =>
          some y6
        else
          some false
      else
        some false) fun v5 =>
    some v5
  else
    some false
noncomputable def object_Valid (a0 : api_Object) : Option (Int) :=
  (object_Number a0.ID).bind fun y1 =>
  if (!y1) = true then
    some 2
  else
  (some ((decide (65536 < ((a0.Data).length : Int))) || ((decide (64 < ((a0.Items).length : Int))) || (decide (8 < ((a0.Parents).length : Int)))))).bind fun v2 =>
  if v2 = true then
    some 3
  else
  (object_right a0).bind fun y3 =>
  if (!y3) = true then
    some 1
  else
    some 0
noncomputable def history_Valid_1 (a0 : api_Object) : Option (Bool) :=
  (object_Valid a0).bind fun y1 =>
  some (y1 != 0)
noncomputable def history_wrong (a0 : api_RefEvent) : Option (Bool) :=
  Option.bind (
    if (a0.Kind != 1) = true then
      if (a0.Kind != 2) = true then
        some true
      else
      (object_Name a0.Name).bind fun y2 =>
      if (!y2) = true then
        some true
      else
      if (a0.Kind == 2) = true then
        some (a0.Commit != 0)
      else
        some false
    else
    (object_Name a0.Name).bind fun y3 =>
    if (!y3) = true then
      some true
    else
    if (a0.Kind == 2) = true then
      some (a0.Commit != 0)
    else
      some false) fun v1 =>
  some v1
noncomputable def history_index_l0 (a0 : api_Repository) (s2 : Int × (List (Int × api_Object))) : Option (Lp (Int × (List (Int × api_Object))) (List (Int × api_Object))) :=
  if (decide (s2.1 < ((a0.Objects).length : Int))) = true then
    (idx a0.Objects s2.1).bind fun x3 =>
    some (.go (IntKind.i64.wrap (s2.1 + 1), (mset inE s2.2 x3.ID x3)))
  else
    some (.out s2.2)
noncomputable def history_index (a0 : api_Repository) : Option ((List (Int × api_Object)) × Bool) :=
  (iter (history_index_l0 a0) (0, [])).bind fun v1 =>
  some (v1, (((v1).length : Int) == ((a0.Objects).length : Int)))
noncomputable def history_nameless_l0 (a0 : api_Repository) (a1 : List (Int × api_Object)) (s2 : Int × (List (ByteArray × Bool))) : Option (Lp (Int × (List (ByteArray × Bool))) (Unit ⊕ Bool)) :=
  if (decide (s2.1 < ((a0.Events).length : Int))) = true then
    (idx a0.Events s2.1).bind fun x3 =>
    (some (bif (x3.Kind == 1) then (((((mget inE a1 x3.Commit).getD (⟨0, 0, [], [], 0, [], ByteArray.empty, 0⟩ : api_Object)).Kind) != 3) || ((x3.Kind == 2) && (!((mget stE s2.2 x3.Name).getD false)))) else ((x3.Kind == 2) && (!((mget stE s2.2 x3.Name).getD false))))).bind fun v4 =>
    if v4 = true then
      some (.out (.inr true))
    else
      some (.go (IntKind.i64.wrap (s2.1 + 1), (mset stE s2.2 x3.Name (x3.Kind == 1))))
  else
    some (.out (.inl ()))
noncomputable def history_nameless (a0 : api_Repository) (a1 : List (Int × api_Object)) : Option (Bool) :=
  (iter (history_nameless_l0 a0 a1) (0, [])).bind fun q6 =>
  match q6 with
  | .inl v1 =>
    some false
  | .inr r5 =>
    some r5
noncomputable def history_Valid_3 (a0 : api_RefEvent) : Option (Bool) :=
  (some ((decide (a0.Time < 0)) || (decide (1099511627776 < a0.Time)))).bind fun v1 =>
  some v1
noncomputable def cmp_isNaN_int (a0 : Int) : Option (Bool) :=
  some (a0 != a0)
noncomputable def cmp_Compare_int (a0 : Int) (a1 : Int) : Option (Int) :=
  (cmp_isNaN_int a0).bind fun y1 =>
  (cmp_isNaN_int a1).bind fun y2 =>
  if y1 = true then
    if y2 = true then
      some 0
    else
      some (-1)
  else
  if y2 = true then
    some 1
  else
  if (decide (a0 < a1)) = true then
    some (-1)
  else
  if (decide (a1 < a0)) = true then
    some 1
  else
    some 0
noncomputable def history_Valid_4 (a0 : api_RefEvent) (a1 : api_RefEvent) : Option (Int) :=
  (cmp_Compare_int a0.Time a1.Time).bind fun y1 =>
  some y1
noncomputable def slices_IndexFunc_api_Object_at_history_Valid_1_l0 (a0 : List api_Object) (s2 : Int) : Option (Lp Int (Unit ⊕ Int)) :=
  if (decide (s2 < ((a0).length : Int))) = true then
    (idx a0 s2).bind fun x3 =>
    (history_Valid_1 x3).bind fun y4 =>
    if y4 = true then
      some (.out (.inr s2))
    else
      some (.go (IntKind.i64.wrap (s2 + 1)))
  else
    some (.out (.inl ()))
noncomputable def slices_IndexFunc_api_Object_at_history_Valid_1 (a0 : List api_Object) : Option (Int) :=
  (iter (slices_IndexFunc_api_Object_at_history_Valid_1_l0 a0) 0).bind fun q6 =>
  match q6 with
  | .inl v1 =>
    some (-1)
  | .inr r5 =>
    some r5
noncomputable def slices_ContainsFunc_api_Object_at_history_Valid_1 (a0 : List api_Object) : Option (Bool) :=
  (slices_IndexFunc_api_Object_at_history_Valid_1 a0).bind fun y1 =>
  some (decide (0 ≤ y1))
noncomputable def slices_IndexFunc_api_RefEvent_at_history_wrong_l0 (a0 : List api_RefEvent) (s2 : Int) : Option (Lp Int (Unit ⊕ Int)) :=
  if (decide (s2 < ((a0).length : Int))) = true then
    (idx a0 s2).bind fun x3 =>
    (history_wrong x3).bind fun y4 =>
    if y4 = true then
      some (.out (.inr s2))
    else
      some (.go (IntKind.i64.wrap (s2 + 1)))
  else
    some (.out (.inl ()))
noncomputable def slices_IndexFunc_api_RefEvent_at_history_wrong (a0 : List api_RefEvent) : Option (Int) :=
  (iter (slices_IndexFunc_api_RefEvent_at_history_wrong_l0 a0) 0).bind fun q6 =>
  match q6 with
  | .inl v1 =>
    some (-1)
  | .inr r5 =>
    some r5
noncomputable def slices_ContainsFunc_api_RefEvent_at_history_wrong (a0 : List api_RefEvent) : Option (Bool) :=
  (slices_IndexFunc_api_RefEvent_at_history_wrong a0).bind fun y1 =>
  some (decide (0 ≤ y1))
noncomputable def history_missing_l1 (a1 : api_Object) (a0 : List (Int × api_Object)) (s4 : Int) : Option (Lp Int (Unit ⊕ Bool)) :=
  if (decide (s4 < ((a1.Parents).length : Int))) = true then
    (idx a1.Parents s4).bind fun x5 =>
    if ((((mget inE a0 x5).getD (⟨0, 0, [], [], 0, [], ByteArray.empty, 0⟩ : api_Object)).Kind) != 3) = true then
      some (.out (.inr true))
    else
      some (.go (IntKind.i64.wrap (s4 + 1)))
  else
    some (.out (.inl ()))
noncomputable def history_missing_l0 (a1 : api_Object) (a0 : List (Int × api_Object)) (s8 : Int) : Option (Lp Int (Unit ⊕ Bool)) :=
  if (decide (s8 < ((a1.Items).length : Int))) = true then
    (idx a1.Items s8).bind fun x9 =>
    (some (((((mget inE a0 x9.ID).getD (⟨0, 0, [], [], 0, [], ByteArray.empty, 0⟩ : api_Object)).Kind) != 1) && ((((mget inE a0 x9.ID).getD (⟨0, 0, [], [], 0, [], ByteArray.empty, 0⟩ : api_Object)).Kind) != 2))).bind fun v10 =>
    if v10 = true then
      some (.out (.inr true))
    else
      some (.go (IntKind.i64.wrap (s8 + 1)))
  else
    some (.out (.inl ()))
noncomputable def history_missing (a0 : List (Int × api_Object)) (a1 : api_Object) : Option (Bool) :=
  (iter (history_missing_l0 a1 a0) 0).bind fun q12 =>
  match q12 with
  | .inl v1 =>
    (iter (history_missing_l1 a1 a0) 0).bind fun q7 =>
    match q7 with
    | .inl v2 =>
      (some ((a1.Kind == 3) && ((((mget inE a0 a1.Tree).getD (⟨0, 0, [], [], 0, [], ByteArray.empty, 0⟩ : api_Object)).Kind) != 2))).bind fun v3 =>
      some v3
    | .inr r6 =>
      some r6
  | .inr r11 =>
    some r11
noncomputable def history_Valid_2_cb (a0 : api_Object) (a1 : List (Int × api_Object)) : Option (Bool × (List (Int × api_Object))) :=
  (history_missing a1 a0).bind fun y1 =>
  some (y1, a1)
noncomputable def slices_IndexFunc_api_Object_at_history_Valid_2_b_l0 (a0 : List api_Object) (s2 : Int × (List (Int × api_Object))) : Option (Lp (Int × (List (Int × api_Object))) ((List (Int × api_Object)) ⊕ (Int × (List (Int × api_Object))))) :=
  if (decide (s2.1 < ((a0).length : Int))) = true then
    (idx a0 s2.1).bind fun x3 =>
    (history_Valid_2_cb x3 s2.2).bind fun y4 =>
    if y4.1 = true then
      some (.out (.inr (s2.1, y4.2)))
    else
      some (.go (IntKind.i64.wrap (s2.1 + 1), y4.2))
  else
    some (.out (.inl s2.2))
noncomputable def slices_IndexFunc_api_Object_at_history_Valid_2_b (a0 : List api_Object) (b10 : List (Int × api_Object)) : Option (Int × (List (Int × api_Object))) :=
  (iter (slices_IndexFunc_api_Object_at_history_Valid_2_b_l0 a0) (0, b10)).bind fun q6 =>
  match q6 with
  | .inl v1 =>
    some ((-1), v1)
  | .inr r5 =>
    some r5
noncomputable def slices_ContainsFunc_api_Object_at_history_Valid_2_b (a0 : List api_Object) (b10 : List (Int × api_Object)) : Option (Bool × (List (Int × api_Object))) :=
  (slices_IndexFunc_api_Object_at_history_Valid_2_b a0 b10).bind fun y1 =>
  some ((decide (0 ≤ y1.1)), y1.2)
noncomputable def slices_IndexFunc_api_RefEvent_at_history_Valid_3_l0 (a0 : List api_RefEvent) (s2 : Int) : Option (Lp Int (Unit ⊕ Int)) :=
  if (decide (s2 < ((a0).length : Int))) = true then
    (idx a0 s2).bind fun x3 =>
    (history_Valid_3 x3).bind fun y4 =>
    if y4 = true then
      some (.out (.inr s2))
    else
      some (.go (IntKind.i64.wrap (s2 + 1)))
  else
    some (.out (.inl ()))
noncomputable def slices_IndexFunc_api_RefEvent_at_history_Valid_3 (a0 : List api_RefEvent) : Option (Int) :=
  (iter (slices_IndexFunc_api_RefEvent_at_history_Valid_3_l0 a0) 0).bind fun q6 =>
  match q6 with
  | .inl v1 =>
    some (-1)
  | .inr r5 =>
    some r5
noncomputable def slices_ContainsFunc_api_RefEvent_at_history_Valid_3 (a0 : List api_RefEvent) : Option (Bool) :=
  (slices_IndexFunc_api_RefEvent_at_history_Valid_3 a0).bind fun y1 =>
  some (decide (0 ≤ y1))
noncomputable def slices_IsSortedFunc_api_RefEvent_at_history_Valid_4_l0 (a0 : List api_RefEvent) (s2 : Int) : Option (Lp Int (Unit ⊕ Bool)) :=
  if (decide (0 < s2)) = true then
    (idx a0 s2).bind fun x3 =>
    (idx a0 (IntKind.i64.wrap (s2 - 1))).bind fun x4 =>
    (history_Valid_4 x3 x4).bind fun y5 =>
    if (decide (y5 < 0)) = true then
      some (.out (.inr false))
    else
      some (.go (IntKind.i64.wrap (s2 - 1)))
  else
    some (.out (.inl ()))
noncomputable def slices_IsSortedFunc_api_RefEvent_at_history_Valid_4 (a0 : List api_RefEvent) : Option (Bool) :=
  (iter (slices_IsSortedFunc_api_RefEvent_at_history_Valid_4_l0 a0) (IntKind.i64.wrap (((a0).length : Int) - 1))).bind fun q7 =>
  match q7 with
  | .inl v1 =>
    some true
  | .inr r6 =>
    some r6
noncomputable def history_Valid_j1 (s9 : Int × (List (ByteArray × Bool))) (v11 : (List (ByteArray × Bool))) : Option (Lp (Int × (List (ByteArray × Bool))) (Unit ⊕ Int)) :=
  if (decide (32 < ((v11).length : Int))) = true then
    some (.out (.inr 3))
  else
    some (.go (IntKind.i64.wrap (s9.1 + 1), v11))
noncomputable def history_Valid_l0 (a0 : api_Repository) (s9 : Int × (List (ByteArray × Bool))) : Option (Lp (Int × (List (ByteArray × Bool))) (Unit ⊕ Int)) :=
  if (decide (s9.1 < ((a0.Events).length : Int))) = true then
    (idx a0.Events s9.1).bind fun x10 =>
    if (x10.Kind == 1) = true then
      history_Valid_j1 s9 (mset stE s9.2 x10.Name true)
    else
      history_Valid_j1 s9 (mdel stE s9.2 x10.Name)
  else
    some (.out (.inl ()))
noncomputable def history_Valid (a0 : api_Repository) : Option (Int) :=
  (some ((decide (400 < ((a0.Objects).length : Int))) || (decide (300 < ((a0.Events).length : Int))))).bind fun v1 =>
  if v1 = true then
    some 3
  else
  Option.bind (
    (slices_ContainsFunc_api_Object_at_history_Valid_1 a0.Objects).bind fun y16 =>
    if y16 = true then
      some true
    else
    (slices_ContainsFunc_api_RefEvent_at_history_wrong a0.Events).bind fun y17 =>
    some y17) fun v2 =>
  if v2 = true then
    some 1
  else
  (history_index a0).bind fun y3 =>
  if (!y3.2) = true then
    some 7
  else
  Option.bind (
    (slices_ContainsFunc_api_Object_at_history_Valid_2_b a0.Objects y3.1).bind fun y14 =>
    if y14.1 = true then
      some (true, y14.2)
    else
    (history_nameless a0 y14.2).bind fun y15 =>
    some (y15, y14.2)) fun v4 =>
  if v4.1 = true then
    some 6
  else
  (history_cycle v4.2).bind fun y5 =>
  if y5 = true then
    some 8
  else
  (slices_ContainsFunc_api_RefEvent_at_history_Valid_3 a0.Events).bind fun y6 =>
  if y6 = true then
    some 2
  else
  (slices_IsSortedFunc_api_RefEvent_at_history_Valid_4 a0.Events).bind fun y7 =>
  if (!y7) = true then
    some 11
  else
  (iter (history_Valid_l0 a0) (0, [])).bind fun q13 =>
  match q13 with
  | .inl v8 =>
    some 0
  | .inr r12 =>
    some r12
noncomputable def make_Tape_Next (a0 : make_Tape) (a1 : Int) : Option (Int × make_Tape) :=
  if (decide (((a0.L).length : Int) ≤ a0.at_)) = true then
    some (0, a0)
  else
  (idx a0.L a0.at_).bind fun x1 =>
  (ck (a1 ≠ 0)).bind fun _ =>
  some (((bAnd .i64 x1 65535)).tmod a1, (⟨a0.L, IntKind.i64.wrap (a0.at_ + 1)⟩ : make_Tape))
noncomputable def make_Tape_Between (a0 : make_Tape) (a1 : Int) (a2 : Int) : Option (Int × make_Tape) :=
  (make_Tape_Next a0 (IntKind.i64.wrap ((IntKind.i64.wrap (a2 - a1)) + 1))).bind fun y1 =>
  some (IntKind.i64.wrap (a1 + y1.1), y1.2)
noncomputable def make_Bytes_j1 (y3 : Int × make_Tape) (s2 : Int × (List Int) × Int × (List Int)) (v7 : Bool) : Option (Lp (Int × (List Int) × Int × (List Int)) ((List Int) × Int × (List Int))) :=
  if v7 = true then
    (make_Tape_Next y3.2 10).bind fun y8 =>
    (ck ((s2.2.2.2).length + ([IntKind.u8.wrap (IntKind.i64.wrap (48 + y8.1))]).length ≤ 268435456)).bind fun _ =>
    some (.go (IntKind.i64.wrap (s2.1 + 1), y8.2.L, y8.2.at_, (s2.2.2.2 ++ [IntKind.u8.wrap (IntKind.i64.wrap (48 + y8.1))])))
  else
  (make_Tape_Next y3.2 8).bind fun y9 =>
  (sidx (⟨#[97, 98, 99, 100, 101, 102, 116, 107]⟩ : ByteArray) y9.1).bind fun x10 =>
  (ck ((s2.2.2.2).length + ([x10]).length ≤ 268435456)).bind fun _ =>
  some (.go (IntKind.i64.wrap (s2.1 + 1), y9.2.L, y9.2.at_, (s2.2.2.2 ++ [x10])))
noncomputable def make_Bytes_l0 (a1 : Int) (s2 : Int × (List Int) × Int × (List Int)) : Option (Lp (Int × (List Int) × Int × (List Int)) ((List Int) × Int × (List Int))) :=
  if (decide (s2.1 < a1)) = true then
    (make_Tape_Next (⟨s2.2.1, s2.2.2.1⟩ : make_Tape) 8).bind fun y3 =>
    if (y3.1 == 0) = true then
      (make_Tape_Next y3.2 8).bind fun y4 =>
      (sidx (⟨#[32, 10, 61, 37, 43, 47, 45, 46]⟩ : ByteArray) y4.1).bind fun x5 =>
      (ck ((s2.2.2.2).length + ([x5]).length ≤ 268435456)).bind fun _ =>
      some (.go (IntKind.i64.wrap (s2.1 + 1), y4.2.L, y4.2.at_, (s2.2.2.2 ++ [x5])))
    else
    if (y3.1 == 1) = true then
      (make_Tape_Next y3.2 256).bind fun y6 =>
      (ck ((s2.2.2.2).length + ([IntKind.u8.wrap y6.1]).length ≤ 268435456)).bind fun _ =>
      some (.go (IntKind.i64.wrap (s2.1 + 1), y6.2.L, y6.2.at_, (s2.2.2.2 ++ [IntKind.u8.wrap y6.1])))
    else
    if (y3.1 == 2) = true then
      make_Bytes_j1 y3 s2 (y3.1 == 2)
    else
      make_Bytes_j1 y3 s2 (y3.1 == 3)
  else
    some (.out (s2.2.1, s2.2.2.1, s2.2.2.2))
noncomputable def make_Bytes (a0 : make_Tape) (a1 : Int) : Option ((List Int) × make_Tape) :=
  (iter (make_Bytes_l0 a1) (0, a0.L, a0.at_, [])).bind fun v1 =>
  some (v1.2.2, (⟨v1.1, v1.2.1⟩ : make_Tape))
noncomputable def make_Events_l0 (a1 : List Int) (s4 : Int × Int × (List Int) × Int × (List (ByteArray × Bool)) × (List api_RefEvent)) : Option (Lp (Int × Int × (List Int) × Int × (List (ByteArray × Bool)) × (List api_RefEvent)) ((List Int) × Int × (List api_RefEvent))) :=
  if (decide (0 < s4.2.1)) = true then
    (make_Tape_Next (⟨s4.2.2.1, s4.2.2.2.1⟩ : make_Tape) 3).bind fun y5 =>
    (make_Tape_Next y5.2 3).bind fun y6 =>
    (ck (0 ≤ y6.1 ∧ (Int.toNat y6.1) < ([(⟨#[109, 97, 105, 110]⟩ : ByteArray), (⟨#[111, 108, 100]⟩ : ByteArray), (⟨#[120]⟩ : ByteArray)]).length)).bind fun _ =>
    (idx [(⟨#[109, 97, 105, 110]⟩ : ByteArray), (⟨#[111, 108, 100]⟩ : ByteArray), (⟨#[120]⟩ : ByteArray)] y6.1).bind fun x7 =>
    Option.bind (
      if ((mget stE s4.2.2.2.2.1 x7).getD false) = true then
        (make_Tape_Next y6.2 3).bind fun y11 =>
        some ((y11.1 == 0), y11.2.L, y11.2.at_)
      else
        some (false, y6.2.L, y6.2.at_)) fun v8 =>
    if v8.1 = true then
      (ck ((s4.2.2.2.2.2).length + ([(⟨2, x7, 0, IntKind.i64.wrap (s4.1 + y5.1)⟩ : api_RefEvent)]).length ≤ 268435456)).bind fun _ =>
      some (.go (IntKind.i64.wrap (s4.1 + y5.1), IntKind.i64.wrap (s4.2.1 - 1), v8.2.1, v8.2.2, (mset stE s4.2.2.2.2.1 x7 false), (s4.2.2.2.2.2 ++ [(⟨2, x7, 0, IntKind.i64.wrap (s4.1 + y5.1)⟩ : api_RefEvent)])))
    else
    (make_Tape_Next (⟨v8.2.1, v8.2.2⟩ : make_Tape) ((a1).length : Int)).bind fun y9 =>
    (idx a1 y9.1).bind fun x10 =>
    (ck ((s4.2.2.2.2.2).length + ([(⟨1, x7, x10, IntKind.i64.wrap (s4.1 + y5.1)⟩ : api_RefEvent)]).length ≤ 268435456)).bind fun _ =>
    some (.go (IntKind.i64.wrap (s4.1 + y5.1), IntKind.i64.wrap (s4.2.1 - 1), y9.2.L, y9.2.at_, (mset stE s4.2.2.2.2.1 x7 true), (s4.2.2.2.2.2 ++ [(⟨1, x7, x10, IntKind.i64.wrap (s4.1 + y5.1)⟩ : api_RefEvent)])))
  else
    some (.out (s4.2.2.1, s4.2.2.2.1, s4.2.2.2.2.2))
noncomputable def make_Events (a0 : make_Tape) (a1 : List Int) : Option ((List api_RefEvent) × make_Tape) :=
  (make_Tape_Next a0 4).bind fun y1 =>
  (make_Tape_Next y1.2 8).bind fun y2 =>
  (iter (make_Events_l0 a1) (y1.1, y2.1, y2.2.L, y2.2.at_, [], [])).bind fun v3 =>
  some (v3.2.2, (⟨v3.1, v3.2.1⟩ : make_Tape))
noncomputable def make_Repository_1_cbbo0 (a0 : api_Object) (a1 : Int) (a2 : api_Repository) : Option (Int × Int × api_Repository) :=
  (ck ((a2.Objects).length + ([(⟨IntKind.i64.wrap (a1 + 1), a0.Kind, a0.Data, a0.Items, a0.Tree, a0.Parents, a0.Author, a0.Time⟩ : api_Object)]).length ≤ 268435456)).bind fun _ =>
  some (IntKind.i64.wrap (a1 + 1), IntKind.i64.wrap (a1 + 1), (⟨(a2.Objects ++ [(⟨IntKind.i64.wrap (a1 + 1), a0.Kind, a0.Data, a0.Items, a0.Tree, a0.Parents, a0.Author, a0.Time⟩ : api_Object)]), a2.Events⟩ : api_Repository))
noncomputable def make_Repository_l3 (s8 : Int × (List Int) × Int × (List api_RefEvent) × Int × (List api_Object) × (List Int)) (s14 : Int × (List Int) × Int × (List Int)) : Option (Lp (Int × (List Int) × Int × (List Int)) ((List Int) × Int × (List Int))) :=
  (some ((decide (0 ≤ s14.1)) && (decide (((s14.2.2.2).length : Int) < 2)))).bind fun v15 =>
  if v15 = true then
    (make_Tape_Next (⟨s14.2.1, s14.2.2.1⟩ : make_Tape) 2).bind fun y16 =>
    if (y16.1 == 0) = true then
      (ck (0 ≤ s14.1 ∧ (Int.toNat s14.1) < (s8.2.2.2.2.2.2).length)).bind fun _ =>
      (idx s8.2.2.2.2.2.2 s14.1).bind fun x17 =>
      (ck ((s14.2.2.2).length + ([x17]).length ≤ 268435456)).bind fun _ =>
      some (.go (IntKind.i64.wrap (s14.1 - 1), y16.2.L, y16.2.at_, (s14.2.2.2 ++ [x17])))
    else
      some (.go (IntKind.i64.wrap (s14.1 - 1), y16.2.L, y16.2.at_, s14.2.2.2))
  else
    some (.out (s14.2.1, s14.2.2.1, s14.2.2.2))
noncomputable def make_Repository_l2 (v4 : (List Int) × Int × (List api_RefEvent) × Int × (List api_Object) × (List Int)) (s8 : Int × (List Int) × Int × (List api_RefEvent) × Int × (List api_Object) × (List Int)) : Option (Lp (Int × (List Int) × Int × (List api_RefEvent) × Int × (List api_Object) × (List Int)) ((List Int) × Int × (List api_RefEvent) × (List api_Object) × (List Int))) :=
  if (decide (0 < s8.1)) = true then
    (make_Tape_Next (⟨s8.2.1, s8.2.2.1⟩ : make_Tape) ((v4.2.2.2.2.2).length : Int)).bind fun y9 =>
    (ck (0 ≤ y9.1 ∧ (Int.toNat y9.1) < (v4.2.2.2.2.2).length)).bind fun _ =>
    (idx v4.2.2.2.2.2 y9.1).bind fun x10 =>
    (make_Tape_Next y9.2 20).bind fun y11 =>
    (iter (make_Repository_l3 s8) (IntKind.i64.wrap (((s8.2.2.2.2.2.2).length : Int) - 1), y11.2.L, y11.2.at_, [])).bind fun v12 =>
    (make_Repository_1_cbbo0 (⟨0, 3, [], [], x10, v12.2.2, (⟨#[97, 110, 110]⟩ : ByteArray), y11.1⟩ : api_Object) s8.2.2.2.2.1 (⟨s8.2.2.2.2.2.1, s8.2.2.2.1⟩ : api_Repository)).bind fun y13 =>
    (ck ((s8.2.2.2.2.2.2).length + ([y13.1]).length ≤ 268435456)).bind fun _ =>
    some (.go (IntKind.i64.wrap (s8.1 - 1), v12.1, v12.2.1, y13.2.2.Events, y13.2.1, y13.2.2.Objects, (s8.2.2.2.2.2.2 ++ [y13.1])))
  else
    some (.out (s8.2.1, s8.2.2.1, s8.2.2.2.1, s8.2.2.2.2.2.1, s8.2.2.2.2.2.2))
noncomputable def make_Repository_l4 (l19 : List ByteArray) (v2 : (List Int) × Int × (List api_RefEvent) × Int × (List Int) × (List api_Object)) (s18 : Int × (List Int) × Int × (List api_RefEvent) × Int × (List api_Object) × (List Int)) (s22 : Int × (List Int) × Int × (List api_Item)) : Option (Lp (Int × (List Int) × Int × (List api_Item)) ((List Int) × Int × (List api_Item))) :=
  if (decide (s22.1 < (([(⟨#[97]⟩ : ByteArray), (⟨#[98]⟩ : ByteArray), (⟨#[100]⟩ : ByteArray)]).length : Int))) = true then
    (ck (0 ≤ s22.1 ∧ (Int.toNat s22.1) < (l19).length)).bind fun _ =>
    (idx l19 s22.1).bind fun x23 =>
    (make_Tape_Next (⟨s22.2.1, s22.2.2.1⟩ : make_Tape) 3).bind fun y24 =>
    if (y24.1 == 0) = true then
      (make_Tape_Next y24.2 ((v2.2.2.2.2.1).length : Int)).bind fun y25 =>
      (ck (0 ≤ y25.1 ∧ (Int.toNat y25.1) < (v2.2.2.2.2.1).length)).bind fun _ =>
      (idx v2.2.2.2.2.1 y25.1).bind fun x26 =>
      (ck ((s22.2.2.2).length + ([(⟨x23, x26⟩ : api_Item)]).length ≤ 268435456)).bind fun _ =>
      some (.go (IntKind.i64.wrap (s22.1 + 1), y25.2.L, y25.2.at_, (s22.2.2.2 ++ [(⟨x23, x26⟩ : api_Item)])))
    else
    if (y24.1 == 1) = true then
      if (decide (0 < ((s18.2.2.2.2.2.2).length : Int))) = true then
        (make_Tape_Next y24.2 ((s18.2.2.2.2.2.2).length : Int)).bind fun y27 =>
        (ck (0 ≤ y27.1 ∧ (Int.toNat y27.1) < (s18.2.2.2.2.2.2).length)).bind fun _ =>
        (idx s18.2.2.2.2.2.2 y27.1).bind fun x28 =>
        (ck ((s22.2.2.2).length + ([(⟨x23, x28⟩ : api_Item)]).length ≤ 268435456)).bind fun _ =>
        some (.go (IntKind.i64.wrap (s22.1 + 1), y27.2.L, y27.2.at_, (s22.2.2.2 ++ [(⟨x23, x28⟩ : api_Item)])))
      else
        some (.go (IntKind.i64.wrap (s22.1 + 1), y24.2.L, y24.2.at_, s22.2.2.2))
    else
      some (.go (IntKind.i64.wrap (s22.1 + 1), y24.2.L, y24.2.at_, s22.2.2.2))
  else
    some (.out (s22.2.1, s22.2.2.1, s22.2.2.2))
noncomputable def make_Repository_l1 (v2 : (List Int) × Int × (List api_RefEvent) × Int × (List Int) × (List api_Object)) (s18 : Int × (List Int) × Int × (List api_RefEvent) × Int × (List api_Object) × (List Int)) : Option (Lp (Int × (List Int) × Int × (List api_RefEvent) × Int × (List api_Object) × (List Int)) ((List Int) × Int × (List api_RefEvent) × Int × (List api_Object) × (List Int))) :=
  if (decide (0 < s18.1)) = true then
    (some ([(⟨#[97]⟩ : ByteArray), (⟨#[98]⟩ : ByteArray), (⟨#[100]⟩ : ByteArray)] : List ByteArray)).bind fun l19 =>
    (iter (make_Repository_l4 l19 v2 s18) (0, s18.2.1, s18.2.2.1, [])).bind fun v20 =>
    (make_Repository_1_cbbo0 (⟨0, 2, [], v20.2.2, 0, [], ByteArray.empty, 0⟩ : api_Object) s18.2.2.2.2.1 (⟨s18.2.2.2.2.2.1, s18.2.2.2.1⟩ : api_Repository)).bind fun y21 =>
    (ck ((s18.2.2.2.2.2.2).length + ([y21.1]).length ≤ 268435456)).bind fun _ =>
    some (.go (IntKind.i64.wrap (s18.1 - 1), v20.1, v20.2.1, y21.2.2.Events, y21.2.1, y21.2.2.Objects, (s18.2.2.2.2.2.2 ++ [y21.1])))
  else
    some (.out (s18.2.1, s18.2.2.1, s18.2.2.2.1, s18.2.2.2.2.1, s18.2.2.2.2.2.1, s18.2.2.2.2.2.2))
noncomputable def make_Repository_l0  (s29 : Int × (List Int) × Int × (List api_RefEvent) × Int × (List Int) × (List api_Object)) : Option (Lp (Int × (List Int) × Int × (List api_RefEvent) × Int × (List Int) × (List api_Object)) ((List Int) × Int × (List api_RefEvent) × Int × (List Int) × (List api_Object))) :=
  if (decide (0 < s29.1)) = true then
    (make_Tape_Next (⟨s29.2.1, s29.2.2.1⟩ : make_Tape) 12).bind fun y30 =>
    (make_Bytes y30.2 y30.1).bind fun y31 =>
    (make_Repository_1_cbbo0 (⟨0, 1, y31.1, [], 0, [], ByteArray.empty, 0⟩ : api_Object) s29.2.2.2.2.1 (⟨s29.2.2.2.2.2.2, s29.2.2.2.1⟩ : api_Repository)).bind fun y32 =>
    (ck ((s29.2.2.2.2.2.1).length + ([y32.1]).length ≤ 268435456)).bind fun _ =>
    some (.go (IntKind.i64.wrap (s29.1 - 1), y31.2.L, y31.2.at_, y32.2.2.Events, y32.2.1, (s29.2.2.2.2.2.1 ++ [y32.1]), y32.2.2.Objects))
  else
    some (.out (s29.2.1, s29.2.2.1, s29.2.2.2.1, s29.2.2.2.2.1, s29.2.2.2.2.2.1, s29.2.2.2.2.2.2))
noncomputable def make_Repository (a0 : make_Tape) : Option (api_Repository × make_Tape) :=
  (make_Tape_Between a0 1 4).bind fun y1 =>
  (iter (make_Repository_l0) (y1.1, y1.2.L, y1.2.at_, [], 0, [], [])).bind fun v2 =>
  (make_Tape_Between (⟨v2.1, v2.2.1⟩ : make_Tape) 1 4).bind fun y3 =>
  (iter (make_Repository_l1 v2) (y3.1, y3.2.L, y3.2.at_, v2.2.2.1, v2.2.2.2.1, v2.2.2.2.2.2, [])).bind fun v4 =>
  (make_Tape_Between (⟨v4.1, v4.2.1⟩ : make_Tape) 1 5).bind fun y5 =>
  (iter (make_Repository_l2 v4) (y5.1, y5.2.L, y5.2.at_, v4.2.2.1, v4.2.2.2.1, v4.2.2.2.2.1, [])).bind fun v6 =>
  (make_Events (⟨v6.1, v6.2.1⟩ : make_Tape) v6.2.2.2.2).bind fun y7 =>
  some ((⟨v6.2.2.2.1, y7.1⟩ : api_Repository), y7.2)
noncomputable def walk_index_1_cro (a0 : api_Item) (a1 : List (Int × api_Object)) : Option (Bool) :=
  (some (((((mget inE a1 a0.ID).getD (⟨0, 0, [], [], 0, [], ByteArray.empty, 0⟩ : api_Object)).Kind) == 2) && (((((mget inE a1 a0.ID).getD (⟨0, 0, [], [], 0, [], ByteArray.empty, 0⟩ : api_Object)).Items).length : Int) == 0))).bind fun v1 =>
  some v1
noncomputable def slices_IndexFunc_api_Item_at_walk_index_1_ro_l0 (a0 : List api_Item) (b10 : List (Int × api_Object)) (s2 : Int) : Option (Lp Int (Unit ⊕ Int)) :=
  if (decide (s2 < ((a0).length : Int))) = true then
    (idx a0 s2).bind fun x3 =>
    (walk_index_1_cro x3 b10).bind fun y4 =>
    if y4 = true then
      some (.out (.inr s2))
    else
      some (.go (IntKind.i64.wrap (s2 + 1)))
  else
    some (.out (.inl ()))
noncomputable def slices_IndexFunc_api_Item_at_walk_index_1_ro (a0 : List api_Item) (b10 : List (Int × api_Object)) : Option (Int) :=
  (iter (slices_IndexFunc_api_Item_at_walk_index_1_ro_l0 a0 b10) 0).bind fun q6 =>
  match q6 with
  | .inl v1 =>
    some (-1)
  | .inr r5 =>
    some r5
noncomputable def slices_DeleteFunc_api_Item_eat0_at_walk_index_1_ro_own0_l0 (b10 : List (Int × api_Object)) (s4 : Int × Int × (List api_Item)) : Option (Lp (Int × Int × (List api_Item)) (Int × (List api_Item))) :=
  if (decide (s4.2.1 < ((s4.2.2).length : Int))) = true then
    (ck (0 ≤ s4.2.1 ∧ (Int.toNat s4.2.1) < (s4.2.2).length)).bind fun _ =>
    (idx s4.2.2 s4.2.1).bind fun x5 =>
    (walk_index_1_cro x5 b10).bind fun y6 =>
    if (!y6) = true then
      (ck (0 ≤ s4.1 ∧ (Int.toNat s4.1) < (s4.2.2).length)).bind fun _ =>
      (idx s4.2.2 s4.1).bind fun x7 =>
      some (.go (IntKind.i64.wrap (s4.1 + 1), IntKind.i64.wrap (s4.2.1 + 1), (s4.2.2.set (Int.toNat s4.1) x5)))
    else
      some (.go (s4.1, IntKind.i64.wrap (s4.2.1 + 1), s4.2.2))
  else
    some (.out (s4.1, s4.2.2))
noncomputable def slices_DeleteFunc_api_Item_eat0_at_walk_index_1_ro_own0 (a0 : List api_Item) (b10 : List (Int × api_Object)) : Option ((List api_Item)) :=
  (slices_IndexFunc_api_Item_at_walk_index_1_ro a0 b10).bind fun y1 =>
  if (y1 == (-1)) = true then
    some a0
  else
  (iter (slices_DeleteFunc_api_Item_eat0_at_walk_index_1_ro_own0_l0 b10) (y1, IntKind.i64.wrap (y1 + 1), a0)).bind fun v2 =>
  (ck (0 ≤ v2.1 ∧ v2.1 ≤ (((v2.2).length : Nat) : Int) ∧ (((v2.2).length : Nat) : Int) ≤ (((v2.2).length : Nat) : Int))).bind fun _ =>
  (some ((((v2.2).take (Int.toNat v2.1)) ++ List.replicate ((v2.2).length - (Int.toNat v2.1)) (⟨ByteArray.empty, 0⟩ : api_Item)) : List api_Item)).bind fun l3 =>
  (ck (0 ≤ 0 ∧ 0 ≤ v2.1 ∧ v2.1 ≤ (((l3).length : Nat) : Int))).bind fun _ =>
  some ((l3).take (Int.toNat v2.1))
end Go.Vl
