/- Plain functions that mirror functions of the given program. Conditions: none. -/
import Derived.Test.YtjnflahicimmlaaGreatDoorJno
import Derived.Test.YtjnflahicimmlaaGreatDoorJf
import Derived.Test.YtjnflahicimmlaaGreatDoorVmCc
import Derived.Test.YtjnflahicimmlaaGreatDoorVmCl
import Derived.Test.YtjnflahicimmlaaGreatDoorVmSt
import Derived.Test.YtjnflahicimmlaaGreatDoorVmLz
import Derived.Test.YtjnflahicimmlaaGreatDoorJq
import Derived.Test.YtjnflahicimmlaaGreatDoorTyJ
set_option linter.unusedSimpArgs false
set_option linter.unusedVariables false
namespace Go.Vl
open Go
noncomputable def make_Tape_Next (a0 : make_Tape) (a1 : Int) : Option (Int × make_Tape) :=
 if (decide (((a0.L).length : Int) ≤ a0.at_)) = true then
   some (0, a0)
 else
 (idx a0.L a0.at_).bind fun x1 =>
 (ck (a1 ≠ 0)).bind fun _ =>
 some (((bAnd .i64 x1 65535)).tmod a1, (⟨a0.L, IntKind.i64.wrap (a0.at_ + 1)⟩ : make_Tape))
noncomputable def make_Tape_Between (a0 : make_Tape) (a1 : Int) (a2 : Int) : Option (Int × make_Tape) :=
 (make_Tape_Next a0 (IntKind.i64.wrap ((IntKind.i64.wrap (a2 - a1)) + 1))).bind fun y1 =>
 some (IntKind.i64.wrap (a1 + y1.1), y1.2)
noncomputable def make_Bytes_j1 (y3 : Int × make_Tape) (s2 : Int × (List Int) × Int × (List Int)) (v7 : Bool) : Option (Lp (Int × (List Int) × Int × (List Int)) ((List Int) × Int × (List Int))) :=
 if v7 = true then
   (make_Tape_Next y3.2 10).bind fun y8 =>
   (ck ((s2.2.2.2).length + ([IntKind.u8.wrap (IntKind.i64.wrap (48 + y8.1))]).length ≤ 268435456)).bind fun _ =>
   some (.go (IntKind.i64.wrap (s2.1 + 1), y8.2.L, y8.2.at_, (s2.2.2.2 ++ [IntKind.u8.wrap (IntKind.i64.wrap (48 + y8.1))])))
 else
 (make_Tape_Next y3.2 8).bind fun y9 =>
 (sidx (⟨#[97, 98, 99, 100, 101, 102, 116, 107]⟩ : ByteArray) y9.1).bind fun x10 =>
 (ck ((s2.2.2.2).length + ([x10]).length ≤ 268435456)).bind fun _ =>
 some (.go (IntKind.i64.wrap (s2.1 + 1), y9.2.L, y9.2.at_, (s2.2.2.2 ++ [x10])))
noncomputable def make_Bytes_l0 (a1 : Int) (s2 : Int × (List Int) × Int × (List Int)) : Option (Lp (Int × (List Int) × Int × (List Int)) ((List Int) × Int × (List Int))) :=
 if (decide (s2.1 < a1)) = true then
   (make_Tape_Next (⟨s2.2.1, s2.2.2.1⟩ : make_Tape) 8).bind fun y3 =>
   if (y3.1 == 0) = true then
     (make_Tape_Next y3.2 8).bind fun y4 =>
     (sidx (⟨#[32, 10, 61, 37, 43, 47, 45, 46]⟩ : ByteArray) y4.1).bind fun x5 =>
     (ck ((s2.2.2.2).length + ([x5]).length ≤ 268435456)).bind fun _ =>
     some (.go (IntKind.i64.wrap (s2.1 + 1), y4.2.L, y4.2.at_, (s2.2.2.2 ++ [x5])))
   else
   if (y3.1 == 1) = true then
     (make_Tape_Next y3.2 256).bind fun y6 =>
     (ck ((s2.2.2.2).length + ([IntKind.u8.wrap y6.1]).length ≤ 268435456)).bind fun _ =>
     some (.go (IntKind.i64.wrap (s2.1 + 1), y6.2.L, y6.2.at_, (s2.2.2.2 ++ [IntKind.u8.wrap y6.1])))
   else
   if (y3.1 == 2) = true then
     make_Bytes_j1 y3 s2 (y3.1 == 2)
   else
     make_Bytes_j1 y3 s2 (y3.1 == 3)
 else
   some (.out (s2.2.1, s2.2.2.1, s2.2.2.2))
noncomputable def make_Bytes (a0 : make_Tape) (a1 : Int) : Option ((List Int) × make_Tape) :=
 (iter (make_Bytes_l0 a1) (0, a0.L, a0.at_, [])).bind fun v1 =>
 some (v1.2.2, (⟨v1.1, v1.2.1⟩ : make_Tape))
noncomputable def make_Events_l0 (a1 : List Int) (s4 : Int × Int × (List Int) × Int × (List (ByteArray × Bool)) × (List api_RefEvent)) : Option (Lp (Int × Int × (List Int) × Int × (List (ByteArray × Bool)) × (List api_RefEvent)) ((List Int) × Int × (List api_RefEvent))) :=
 if (decide (0 < s4.2.1)) = true then
   (make_Tape_Next (⟨s4.2.2.1, s4.2.2.2.1⟩ : make_Tape) 3).bind fun y5 =>
   (make_Tape_Next y5.2 3).bind fun y6 =>
   (ck (0 ≤ y6.1 ∧ (Int.toNat y6.1) < ([(⟨#[109, 97, 105, 110]⟩ : ByteArray), (⟨#[111, 108, 100]⟩ : ByteArray), (⟨#[120]⟩ : ByteArray)]).length)).bind fun _ =>
   (idx [(⟨#[109, 97, 105, 110]⟩ : ByteArray), (⟨#[111, 108, 100]⟩ : ByteArray), (⟨#[120]⟩ : ByteArray)] y6.1).bind fun x7 =>
   Option.bind (
     if ((mget stE s4.2.2.2.2.1 x7).getD false) = true then
       (make_Tape_Next y6.2 3).bind fun y11 =>
       some ((y11.1 == 0), y11.2.L, y11.2.at_)
     else
       some (false, y6.2.L, y6.2.at_)) fun v8 =>
   if v8.1 = true then
     (ck ((s4.2.2.2.2.2).length + ([(⟨2, x7, 0, IntKind.i64.wrap (s4.1 + y5.1)⟩ : api_RefEvent)]).length ≤ 268435456)).bind fun _ =>
     some (.go (IntKind.i64.wrap (s4.1 + y5.1), IntKind.i64.wrap (s4.2.1 - 1), v8.2.1, v8.2.2, (mset stE s4.2.2.2.2.1 x7 false), (s4.2.2.2.2.2 ++ [(⟨2, x7, 0, IntKind.i64.wrap (s4.1 + y5.1)⟩ : api_RefEvent)])))
   else
   (make_Tape_Next (⟨v8.2.1, v8.2.2⟩ : make_Tape) ((a1).length : Int)).bind fun y9 =>
   (idx a1 y9.1).bind fun x10 =>
   (ck ((s4.2.2.2.2.2).length + ([(⟨1, x7, x10, IntKind.i64.wrap (s4.1 + y5.1)⟩ : api_RefEvent)]).length ≤ 268435456)).bind fun _ =>
   some (.go (IntKind.i64.wrap (s4.1 + y5.1), IntKind.i64.wrap (s4.2.1 - 1), y9.2.L, y9.2.at_, (mset stE s4.2.2.2.2.1 x7 true), (s4.2.2.2.2.2 ++ [(⟨1, x7, x10, IntKind.i64.wrap (s4.1 + y5.1)⟩ : api_RefEvent)])))
 else
   some (.out (s4.2.2.1, s4.2.2.2.1, s4.2.2.2.2.2))
noncomputable def make_Events (a0 : make_Tape) (a1 : List Int) : Option ((List api_RefEvent) × make_Tape) :=
 (make_Tape_Next a0 4).bind fun y1 =>
 (make_Tape_Next y1.2 8).bind fun y2 =>
 (iter (make_Events_l0 a1) (y1.1, y2.1, y2.2.L, y2.2.at_, [], [])).bind fun v3 =>
 some (v3.2.2, (⟨v3.1, v3.2.1⟩ : make_Tape))
noncomputable def make_Repository_1_cbbo0 (a0 : api_Object) (a1 : Int) (a2 : api_Repository) : Option (Int × Int × api_Repository) :=
 (ck ((a2.Objects).length + ([(⟨IntKind.i64.wrap (a1 + 1), a0.Kind, a0.Data, a0.Items, a0.Tree, a0.Parents, a0.Author, a0.Time⟩ : api_Object)]).length ≤ 268435456)).bind fun _ =>
 some (IntKind.i64.wrap (a1 + 1), IntKind.i64.wrap (a1 + 1), (⟨(a2.Objects ++ [(⟨IntKind.i64.wrap (a1 + 1), a0.Kind, a0.Data, a0.Items, a0.Tree, a0.Parents, a0.Author, a0.Time⟩ : api_Object)]), a2.Events⟩ : api_Repository))
noncomputable def make_Repository_l3 (s8 : Int × (List Int) × Int × (List api_RefEvent) × Int × (List api_Object) × (List Int)) (s14 : Int × (List Int) × Int × (List Int)) : Option (Lp (Int × (List Int) × Int × (List Int)) ((List Int) × Int × (List Int))) :=
 (some ((decide (0 ≤ s14.1)) && (decide (((s14.2.2.2).length : Int) < 2)))).bind fun v15 =>
 if v15 = true then
   (make_Tape_Next (⟨s14.2.1, s14.2.2.1⟩ : make_Tape) 2).bind fun y16 =>
   if (y16.1 == 0) = true then
     (ck (0 ≤ s14.1 ∧ (Int.toNat s14.1) < (s8.2.2.2.2.2.2).length)).bind fun _ =>
     (idx s8.2.2.2.2.2.2 s14.1).bind fun x17 =>
     (ck ((s14.2.2.2).length + ([x17]).length ≤ 268435456)).bind fun _ =>
     some (.go (IntKind.i64.wrap (s14.1 - 1), y16.2.L, y16.2.at_, (s14.2.2.2 ++ [x17])))
   else
     some (.go (IntKind.i64.wrap (s14.1 - 1), y16.2.L, y16.2.at_, s14.2.2.2))
 else
   some (.out (s14.2.1, s14.2.2.1, s14.2.2.2))
noncomputable def make_Repository_l2 (v4 : (List Int) × Int × (List api_RefEvent) × Int × (List api_Object) × (List Int)) (s8 : Int × (List Int) × Int × (List api_RefEvent) × Int × (List api_Object) × (List Int)) : Option (Lp (Int × (List Int) × Int × (List api_RefEvent) × Int × (List api_Object) × (List Int)) ((List Int) × Int × (List api_RefEvent) × (List api_Object) × (List Int))) :=
 if (decide (0 < s8.1)) = true then
   (make_Tape_Next (⟨s8.2.1, s8.2.2.1⟩ : make_Tape) ((v4.2.2.2.2.2).length : Int)).bind fun y9 =>
   (ck (0 ≤ y9.1 ∧ (Int.toNat y9.1) < (v4.2.2.2.2.2).length)).bind fun _ =>
   (idx v4.2.2.2.2.2 y9.1).bind fun x10 =>
   (make_Tape_Next y9.2 20).bind fun y11 =>
   (iter (make_Repository_l3 s8) (IntKind.i64.wrap (((s8.2.2.2.2.2.2).length : Int) - 1), y11.2.L, y11.2.at_, [])).bind fun v12 =>
   (make_Repository_1_cbbo0 (⟨0, 3, [], [], x10, v12.2.2, (⟨#[97, 110, 110]⟩ : ByteArray), y11.1⟩ : api_Object) s8.2.2.2.2.1 (⟨s8.2.2.2.2.2.1, s8.2.2.2.1⟩ : api_Repository)).bind fun y13 =>
   (ck ((s8.2.2.2.2.2.2).length + ([y13.1]).length ≤ 268435456)).bind fun _ =>
   some (.go (IntKind.i64.wrap (s8.1 - 1), v12.1, v12.2.1, y13.2.2.Events, y13.2.1, y13.2.2.Objects, (s8.2.2.2.2.2.2 ++ [y13.1])))
 else
   some (.out (s8.2.1, s8.2.2.1, s8.2.2.2.1, s8.2.2.2.2.2.1, s8.2.2.2.2.2.2))
noncomputable def make_Repository_l4 (l19 : List ByteArray) (v2 : (List Int) × Int × (List api_RefEvent) × Int × (List Int) × (List api_Object)) (s18 : Int × (List Int) × Int × (List api_RefEvent) × Int × (List api_Object) × (List Int)) (s22 : Int × (List Int) × Int × (List api_Item)) : Option (Lp (Int × (List Int) × Int × (List api_Item)) ((List Int) × Int × (List api_Item))) :=
 if (decide (s22.1 < (([(⟨#[97]⟩ : ByteArray), (⟨#[98]⟩ : ByteArray), (⟨#[100]⟩ : ByteArray)]).length : Int))) = true then
   (ck (0 ≤ s22.1 ∧ (Int.toNat s22.1) < (l19).length)).bind fun _ =>
   (idx l19 s22.1).bind fun x23 =>
   (make_Tape_Next (⟨s22.2.1, s22.2.2.1⟩ : make_Tape) 3).bind fun y24 =>
   if (y24.1 == 0) = true then
     (make_Tape_Next y24.2 ((v2.2.2.2.2.1).length : Int)).bind fun y25 =>
     (ck (0 ≤ y25.1 ∧ (Int.toNat y25.1) < (v2.2.2.2.2.1).length)).bind fun _ =>
     (idx v2.2.2.2.2.1 y25.1).bind fun x26 =>
     (ck ((s22.2.2.2).length + ([(⟨x23, x26⟩ : api_Item)]).length ≤ 268435456)).bind fun _ =>
     some (.go (IntKind.i64.wrap (s22.1 + 1), y25.2.L, y25.2.at_, (s22.2.2.2 ++ [(⟨x23, x26⟩ : api_Item)])))
   else
   if (y24.1 == 1) = true then
     if (decide (0 < ((s18.2.2.2.2.2.2).length : Int))) = true then
       (make_Tape_Next y24.2 ((s18.2.2.2.2.2.2).length : Int)).bind fun y27 =>
       (ck (0 ≤ y27.1 ∧ (Int.toNat y27.1) < (s18.2.2.2.2.2.2).length)).bind fun _ =>
       (idx s18.2.2.2.2.2.2 y27.1).bind fun x28 =>
       (ck ((s22.2.2.2).length + ([(⟨x23, x28⟩ : api_Item)]).length ≤ 268435456)).bind fun _ =>
       some (.go (IntKind.i64.wrap (s22.1 + 1), y27.2.L, y27.2.at_, (s22.2.2.2 ++ [(⟨x23, x28⟩ : api_Item)])))
     else
       some (.go (IntKind.i64.wrap (s22.1 + 1), y24.2.L, y24.2.at_, s22.2.2.2))
   else
     some (.go (IntKind.i64.wrap (s22.1 + 1), y24.2.L, y24.2.at_, s22.2.2.2))
 else
   some (.out (s22.2.1, s22.2.2.1, s22.2.2.2))
noncomputable def make_Repository_l1 (v2 : (List Int) × Int × (List api_RefEvent) × Int × (List Int) × (List api_Object)) (s18 : Int × (List Int) × Int × (List api_RefEvent) × Int × (List api_Object) × (List Int)) : Option (Lp (Int × (List Int) × Int × (List api_RefEvent) × Int × (List api_Object) × (List Int)) ((List Int) × Int × (List api_RefEvent) × Int × (List api_Object) × (List Int))) :=
 if (decide (0 < s18.1)) = true then
   (some ([(⟨#[97]⟩ : ByteArray), (⟨#[98]⟩ : ByteArray), (⟨#[100]⟩ : ByteArray)] : List ByteArray)).bind fun l19 =>
   (iter (make_Repository_l4 l19 v2 s18) (0, s18.2.1, s18.2.2.1, [])).bind fun v20 =>
   (make_Repository_1_cbbo0 (⟨0, 2, [], v20.2.2, 0, [], ByteArray.empty, 0⟩ : api_Object) s18.2.2.2.2.1 (⟨s18.2.2.2.2.2.1, s18.2.2.2.1⟩ : api_Repository)).bind fun y21 =>
   (ck ((s18.2.2.2.2.2.2).length + ([y21.1]).length ≤ 268435456)).bind fun _ =>
   some (.go (IntKind.i64.wrap (s18.1 - 1), v20.1, v20.2.1, y21.2.2.Events, y21.2.1, y21.2.2.Objects, (s18.2.2.2.2.2.2 ++ [y21.1])))
 else
   some (.out (s18.2.1, s18.2.2.1, s18.2.2.2.1, s18.2.2.2.2.1, s18.2.2.2.2.2.1, s18.2.2.2.2.2.2))
noncomputable def make_Repository_l0  (s29 : Int × (List Int) × Int × (List api_RefEvent) × Int × (List Int) × (List api_Object)) : Option (Lp (Int × (List Int) × Int × (List api_RefEvent) × Int × (List Int) × (List api_Object)) ((List Int) × Int × (List api_RefEvent) × Int × (List Int) × (List api_Object))) :=
 if (decide (0 < s29.1)) = true then
   (make_Tape_Next (⟨s29.2.1, s29.2.2.1⟩ : make_Tape) 12).bind fun y30 =>
   (make_Bytes y30.2 y30.1).bind fun y31 =>
   (make_Repository_1_cbbo0 (⟨0, 1, y31.1, [], 0, [], ByteArray.empty, 0⟩ : api_Object) s29.2.2.2.2.1 (⟨s29.2.2.2.2.2.2, s29.2.2.2.1⟩ : api_Repository)).bind fun y32 =>
   (ck ((s29.2.2.2.2.2.1).length + ([y32.1]).length ≤ 268435456)).bind fun _ =>
   some (.go (IntKind.i64.wrap (s29.1 - 1), y31.2.L, y31.2.at_, y32.2.2.Events, y32.2.1, (s29.2.2.2.2.2.1 ++ [y32.1]), y32.2.2.Objects))
 else
   some (.out (s29.2.1, s29.2.2.1, s29.2.2.2.1, s29.2.2.2.2.1, s29.2.2.2.2.2.1, s29.2.2.2.2.2.2))
noncomputable def make_Repository (a0 : make_Tape) : Option (api_Repository × make_Tape) :=
 (make_Tape_Between a0 1 4).bind fun y1 =>
 (iter (make_Repository_l0) (y1.1, y1.2.L, y1.2.at_, [], 0, [], [])).bind fun v2 =>
 (make_Tape_Between (⟨v2.1, v2.2.1⟩ : make_Tape) 1 4).bind fun y3 =>
 (iter (make_Repository_l1 v2) (y3.1, y3.2.L, y3.2.at_, v2.2.2.1, v2.2.2.2.1, v2.2.2.2.2.2, [])).bind fun v4 =>
 (make_Tape_Between (⟨v4.1, v4.2.1⟩ : make_Tape) 1 5).bind fun y5 =>
 (iter (make_Repository_l2 v4) (y5.1, y5.2.L, y5.2.at_, v4.2.2.1, v4.2.2.2.1, v4.2.2.2.2.1, [])).bind fun v6 =>
 (make_Events (⟨v6.1, v6.2.1⟩ : make_Tape) v6.2.2.2.2).bind fun y7 =>
 some ((⟨v6.2.2.2.1, y7.1⟩ : api_Repository), y7.2)
noncomputable def object_Number (a0 : Int) : Option (Bool) :=
 (some ((decide (1 ≤ a0)) && (decide (a0 ≤ 1073741824)))).bind fun v1 =>
 some v1
noncomputable def object_Name_l0 (a0 : ByteArray) (s3 : Int) : Option (Lp Int (Unit ⊕ Bool)) :=
 if (decide (s3 < (((sbytes a0)).length : Int))) = true then
   (idx (sbytes a0) s3).bind fun x4 =>
   (some ((decide (x4 < 33)) || ((decide (126 < x4)) || (x4 == 47)))).bind fun v5 =>
   if v5 = true then
     some (.out (.inr false))
   else
     some (.go (IntKind.i64.wrap (s3 + 1)))
 else
   some (.out (.inl ()))
noncomputable def object_Name (a0 : ByteArray) : Option (Bool) :=
 (iter (object_Name_l0 a0) 0).bind fun q7 =>
 match q7 with
 | .inl v1 =>
   (some ((decide (1 ≤ ((a0).size : Int))) && (decide (((a0).size : Int) ≤ 40)))).bind fun v2 =>
   some v2
 | .inr r6 =>
   some r6
noncomputable def object_tree_l0 (a0 : api_Object) (s2 : Int) : Option (Lp Int (Unit ⊕ Bool)) :=
 if (decide (s2 < ((a0.Items).length : Int))) = true then
   (idx a0.Items s2).bind fun x3 =>
   Option.bind (
     (object_Name x3.Name).bind fun y5 =>
     if (!y5) = true then
       some true
     else
     (object_Number x3.ID).bind fun y6 =>
     if (!y6) = true then
       some true
     else
     if (decide (0 < s2)) = true then
       (idx a0.Items (IntKind.i64.wrap (s2 - 1))).bind fun x7 =>
       some (!(Op.bytesLess (x7.Name).toList (x3.Name).toList))
     else
       some false) fun v4 =>
   if v4 = true then
     some (.out (.inr false))
   else
     some (.go (IntKind.i64.wrap (s2 + 1)))
 else
   some (.out (.inl ()))
noncomputable def object_tree (a0 : api_Object) : Option (Bool) :=
 (iter (object_tree_l0 a0) 0).bind fun q9 =>
 match q9 with
 | .inl v1 =>
   some true
 | .inr r8 =>
   some r8
noncomputable def slices_Index_int_l0 (a0 : List Int) (a1 : Int) (s2 : Int) : Option (Lp Int (Unit ⊕ Int)) :=
 if (decide (s2 < ((a0).length : Int))) = true then
   (idx a0 s2).bind fun x3 =>
   if (a1 == x3) = true then
     some (.out (.inr s2))
   else
     some (.go (IntKind.i64.wrap (s2 + 1)))
 else
   some (.out (.inl ()))
noncomputable def slices_Index_int (a0 : List Int) (a1 : Int) : Option (Int) :=
 (iter (slices_Index_int_l0 a0 a1) 0).bind fun q5 =>
 match q5 with
 | .inl v1 =>
   some (-1)
 | .inr r4 =>
   some r4
noncomputable def slices_Contains_int (a0 : List Int) (a1 : Int) : Option (Bool) :=
 (slices_Index_int a0 a1).bind fun y1 =>
 some (decide (0 ≤ y1))
noncomputable def object_commit_l0 (a0 : api_Object) (s5 : Int) : Option (Lp Int (Unit ⊕ Bool)) :=
 if (decide (s5 < ((a0.Parents).length : Int))) = true then
   (idx a0.Parents s5).bind fun x6 =>
   Option.bind (
     (object_Number x6).bind fun y8 =>
     if (!y8) = true then
       some true
     else
     (ck (0 ≤ 0 ∧ 0 ≤ s5 ∧ s5 ≤ ((a0.Parents).length : Int))).bind fun _ =>
     (slices_Contains_int ((a0.Parents).take (Int.toNat s5)) x6).bind fun y9 =>
     some y9) fun v7 =>
   if v7 = true then
     some (.out (.inr false))
   else
     some (.go (IntKind.i64.wrap (s5 + 1)))
 else
   some (.out (.inl ()))
noncomputable def object_commit (a0 : api_Object) : Option (Bool) :=
 (iter (object_commit_l0 a0) 0).bind fun q11 =>
 match q11 with
 | .inl v1 =>
   Option.bind (
     (object_Number a0.Tree).bind fun y3 =>
     if y3 = true then
       (object_Name a0.Author).bind fun y4 =>
       if y4 = true then
         if (decide (0 ≤ a0.Time)) = true then
           some (decide (a0.Time ≤ 1099511627776))
         else
           some false
       else
         some false
     else
       some false) fun v2 =>
   some v2
 | .inr r10 =>
   some r10
noncomputable def object_right (a0 : api_Object) : Option (Bool) :=
 (some ((a0.Tree != 0) || ((decide (0 < ((a0.Parents).length : Int))) || ((!((a0.Author).toList == ((⟨#[]⟩ : ByteArray)).toList)) || (a0.Time != 0))))).bind fun v1 =>
 if (a0.Kind == 1) = true then
   (some ((((a0.Items).length : Int) == 0) && (!v1))).bind fun v2 =>
   some v2
 else
 if (a0.Kind == 2) = true then
   Option.bind (
     if (((a0.Data).length : Int) == 0) = true then
       if (!v1) = true then
         (object_tree a0).bind fun y4 =>
         some y4
       else
         some false
     else
       some false) fun v3 =>
   some v3
 else
 if (a0.Kind == 3) = true then
   Option.bind (
     if (((a0.Data).length : Int) == 0) = true then
       if (((a0.Items).length : Int) == 0) = true then
         (object_commit a0).bind fun y6 =>
         some y6
       else
         some false
     else
       some false) fun v5 =>
   some v5
 else
   some false
noncomputable def object_Valid (a0 : api_Object) : Option (Int) :=
 (object_Number a0.ID).bind fun y1 =>
 if (!y1) = true then
   some 2
 else
 (some ((decide (65536 < ((a0.Data).length : Int))) || ((decide (64 < ((a0.Items).length : Int))) || (decide (8 < ((a0.Parents).length : Int)))))).bind fun v2 =>
 if v2 = true then
   some 3
 else
 (object_right a0).bind fun y3 =>
 if (!y3) = true then
   some 1
 else
   some 0
noncomputable def history_Valid_1 (a0 : api_Object) : Option (Bool) :=
 (object_Valid a0).bind fun y1 =>
 some (y1 != 0)
noncomputable def history_wrong (a0 : api_RefEvent) : Option (Bool) :=
 Option.bind (
   if (a0.Kind != 1) = true then
     if (a0.Kind != 2) = true then
       some true
     else
     (object_Name a0.Name).bind fun y2 =>
     if (!y2) = true then
       some true
     else
     if (a0.Kind == 2) = true then
       some (a0.Commit != 0)
     else
       some false
   else
   (object_Name a0.Name).bind fun y3 =>
   if (!y3) = true then
     some true
   else
   if (a0.Kind == 2) = true then
     some (a0.Commit != 0)
   else
     some false) fun v1 =>
 some v1
noncomputable def history_index_l0 (a0 : api_Repository) (s2 : Int × (List (Int × api_Object))) : Option (Lp (Int × (List (Int × api_Object))) (List (Int × api_Object))) :=
 if (decide (s2.1 < ((a0.Objects).length : Int))) = true then
   (idx a0.Objects s2.1).bind fun x3 =>
   some (.go (IntKind.i64.wrap (s2.1 + 1), (mset inE s2.2 x3.ID x3)))
 else
   some (.out s2.2)
noncomputable def history_index (a0 : api_Repository) : Option ((List (Int × api_Object)) × Bool) :=
 (iter (history_index_l0 a0) (0, [])).bind fun v1 =>
 some (v1, (((v1).length : Int) == ((a0.Objects).length : Int)))
noncomputable def history_nameless_l0 (a0 : api_Repository) (a1 : List (Int × api_Object)) (s2 : Int × (List (ByteArray × Bool))) : Option (Lp (Int × (List (ByteArray × Bool))) (Unit ⊕ Bool)) :=
 if (decide (s2.1 < ((a0.Events).length : Int))) = true then
   (idx a0.Events s2.1).bind fun x3 =>
   (some (bif (x3.Kind == 1) then (((((mget inE a1 x3.Commit).getD (⟨0, 0, [], [], 0, [], ByteArray.empty, 0⟩ : api_Object)).Kind) != 3) || ((x3.Kind == 2) && (!((mget stE s2.2 x3.Name).getD false)))) else ((x3.Kind == 2) && (!((mget stE s2.2 x3.Name).getD false))))).bind fun v4 =>
   if v4 = true then
     some (.out (.inr true))
   else
     some (.go (IntKind.i64.wrap (s2.1 + 1), (mset stE s2.2 x3.Name (x3.Kind == 1))))
 else
   some (.out (.inl ()))
noncomputable def history_nameless (a0 : api_Repository) (a1 : List (Int × api_Object)) : Option (Bool) :=
 (iter (history_nameless_l0 a0 a1) (0, [])).bind fun q6 =>
 match q6 with
 | .inl v1 =>
   some false
 | .inr r5 =>
   some r5
noncomputable def history_Valid_3 (a0 : api_RefEvent) : Option (Bool) :=
 (some ((decide (a0.Time < 0)) || (decide (1099511627776 < a0.Time)))).bind fun v1 =>
 some v1
noncomputable def cmp_isNaN_int (a0 : Int) : Option (Bool) :=
 some (a0 != a0)
noncomputable def cmp_Compare_int (a0 : Int) (a1 : Int) : Option (Int) :=
 (cmp_isNaN_int a0).bind fun y1 =>
 (cmp_isNaN_int a1).bind fun y2 =>
 if y1 = true then
   if y2 = true then
     some 0
   else
     some (-1)
 else
 if y2 = true then
   some 1
 else
 if (decide (a0 < a1)) = true then
   some (-1)
 else
 if (decide (a1 < a0)) = true then
   some 1
 else
   some 0
noncomputable def history_Valid_4 (a0 : api_RefEvent) (a1 : api_RefEvent) : Option (Int) :=
 (cmp_Compare_int a0.Time a1.Time).bind fun y1 =>
 some y1
noncomputable def slices_IndexFunc_api_Object_at_history_Valid_1_l0 (a0 : List api_Object) (s2 : Int) : Option (Lp Int (Unit ⊕ Int)) :=
 if (decide (s2 < ((a0).length : Int))) = true then
   (idx a0 s2).bind fun x3 =>
   (history_Valid_1 x3).bind fun y4 =>
   if y4 = true then
     some (.out (.inr s2))
   else
     some (.go (IntKind.i64.wrap (s2 + 1)))
 else
   some (.out (.inl ()))
noncomputable def slices_IndexFunc_api_Object_at_history_Valid_1 (a0 : List api_Object) : Option (Int) :=
 (iter (slices_IndexFunc_api_Object_at_history_Valid_1_l0 a0) 0).bind fun q6 =>
 match q6 with
 | .inl v1 =>
   some (-1)
 | .inr r5 =>
   some r5
noncomputable def slices_ContainsFunc_api_Object_at_history_Valid_1 (a0 : List api_Object) : Option (Bool) :=
 (slices_IndexFunc_api_Object_at_history_Valid_1 a0).bind fun y1 =>
 some (decide (0 ≤ y1))
noncomputable def slices_IndexFunc_api_RefEvent_at_history_wrong_l0 (a0 : List api_RefEvent) (s2 : Int) : Option (Lp Int (Unit ⊕ Int)) :=
 if (decide (s2 < ((a0).length : Int))) = true then
   (idx a0 s2).bind fun x3 =>
   (history_wrong x3).bind fun y4 =>
   if y4 = true then
     some (.out (.inr s2))
   else
     some (.go (IntKind.i64.wrap (s2 + 1)))
 else
   some (.out (.inl ()))
noncomputable def slices_IndexFunc_api_RefEvent_at_history_wrong (a0 : List api_RefEvent) : Option (Int) :=
 (iter (slices_IndexFunc_api_RefEvent_at_history_wrong_l0 a0) 0).bind fun q6 =>
 match q6 with
 | .inl v1 =>
   some (-1)
 | .inr r5 =>
   some r5
noncomputable def slices_ContainsFunc_api_RefEvent_at_history_wrong (a0 : List api_RefEvent) : Option (Bool) :=
 (slices_IndexFunc_api_RefEvent_at_history_wrong a0).bind fun y1 =>
 some (decide (0 ≤ y1))
noncomputable def history_missing_l1 (a1 : api_Object) (a0 : List (Int × api_Object)) (s4 : Int) : Option (Lp Int (Unit ⊕ Bool)) :=
 if (decide (s4 < ((a1.Parents).length : Int))) = true then
   (idx a1.Parents s4).bind fun x5 =>
   if ((((mget inE a0 x5).getD (⟨0, 0, [], [], 0, [], ByteArray.empty, 0⟩ : api_Object)).Kind) != 3) = true then
     some (.out (.inr true))
   else
     some (.go (IntKind.i64.wrap (s4 + 1)))
 else
   some (.out (.inl ()))
noncomputable def history_missing_l0 (a1 : api_Object) (a0 : List (Int × api_Object)) (s8 : Int) : Option (Lp Int (Unit ⊕ Bool)) :=
 if (decide (s8 < ((a1.Items).length : Int))) = true then
   (idx a1.Items s8).bind fun x9 =>
   (some (((((mget inE a0 x9.ID).getD (⟨0, 0, [], [], 0, [], ByteArray.empty, 0⟩ : api_Object)).Kind) != 1) && ((((mget inE a0 x9.ID).getD (⟨0, 0, [], [], 0, [], ByteArray.empty, 0⟩ : api_Object)).Kind) != 2))).bind fun v10 =>
   if v10 = true then
     some (.out (.inr true))
   else
     some (.go (IntKind.i64.wrap (s8 + 1)))
 else
   some (.out (.inl ()))
noncomputable def history_missing (a0 : List (Int × api_Object)) (a1 : api_Object) : Option (Bool) :=
 (iter (history_missing_l0 a1 a0) 0).bind fun q12 =>
 match q12 with
 | .inl v1 =>
   (iter (history_missing_l1 a1 a0) 0).bind fun q7 =>
   match q7 with
   | .inl v2 =>
     (some ((a1.Kind == 3) && ((((mget inE a0 a1.Tree).getD (⟨0, 0, [], [], 0, [], ByteArray.empty, 0⟩ : api_Object)).Kind) != 2))).bind fun v3 =>
     some v3
   | .inr r6 =>
     some r6
 | .inr r11 =>
   some r11
noncomputable def history_Valid_2_cb (a0 : api_Object) (a1 : List (Int × api_Object)) : Option (Bool × (List (Int × api_Object))) :=
 (history_missing a1 a0).bind fun y1 =>
 some (y1, a1)
noncomputable def slices_IndexFunc_api_Object_at_history_Valid_2_b_l0 (a0 : List api_Object) (s2 : Int × (List (Int × api_Object))) : Option (Lp (Int × (List (Int × api_Object))) ((List (Int × api_Object)) ⊕ (Int × (List (Int × api_Object))))) :=
 if (decide (s2.1 < ((a0).length : Int))) = true then
   (idx a0 s2.1).bind fun x3 =>
   (history_Valid_2_cb x3 s2.2).bind fun y4 =>
   if y4.1 = true then
     some (.out (.inr (s2.1, y4.2)))
   else
     some (.go (IntKind.i64.wrap (s2.1 + 1), y4.2))
 else
   some (.out (.inl s2.2))
noncomputable def slices_IndexFunc_api_Object_at_history_Valid_2_b (a0 : List api_Object) (b10 : List (Int × api_Object)) : Option (Int × (List (Int × api_Object))) :=
 (iter (slices_IndexFunc_api_Object_at_history_Valid_2_b_l0 a0) (0, b10)).bind fun q6 =>
 match q6 with
 | .inl v1 =>
   some ((-1), v1)
 | .inr r5 =>
   some r5
noncomputable def slices_ContainsFunc_api_Object_at_history_Valid_2_b (a0 : List api_Object) (b10 : List (Int × api_Object)) : Option (Bool × (List (Int × api_Object))) :=
 (slices_IndexFunc_api_Object_at_history_Valid_2_b a0 b10).bind fun y1 =>
 some ((decide (0 ≤ y1.1)), y1.2)
noncomputable def slices_IndexFunc_api_RefEvent_at_history_Valid_3_l0 (a0 : List api_RefEvent) (s2 : Int) : Option (Lp Int (Unit ⊕ Int)) :=
 if (decide (s2 < ((a0).length : Int))) = true then
   (idx a0 s2).bind fun x3 =>
   (history_Valid_3 x3).bind fun y4 =>
   if y4 = true then
     some (.out (.inr s2))
   else
     some (.go (IntKind.i64.wrap (s2 + 1)))
 else
   some (.out (.inl ()))
noncomputable def slices_IndexFunc_api_RefEvent_at_history_Valid_3 (a0 : List api_RefEvent) : Option (Int) :=
 (iter (slices_IndexFunc_api_RefEvent_at_history_Valid_3_l0 a0) 0).bind fun q6 =>
 match q6 with
 | .inl v1 =>
   some (-1)
 | .inr r5 =>
   some r5
noncomputable def slices_ContainsFunc_api_RefEvent_at_history_Valid_3 (a0 : List api_RefEvent) : Option (Bool) :=
 (slices_IndexFunc_api_RefEvent_at_history_Valid_3 a0).bind fun y1 =>
 some (decide (0 ≤ y1))
noncomputable def slices_IsSortedFunc_api_RefEvent_at_history_Valid_4_l0 (a0 : List api_RefEvent) (s2 : Int) : Option (Lp Int (Unit ⊕ Bool)) :=
 if (decide (0 < s2)) = true then
   (idx a0 s2).bind fun x3 =>
   (idx a0 (IntKind.i64.wrap (s2 - 1))).bind fun x4 =>
   (history_Valid_4 x3 x4).bind fun y5 =>
   if (decide (y5 < 0)) = true then
     some (.out (.inr false))
   else
     some (.go (IntKind.i64.wrap (s2 - 1)))
 else
   some (.out (.inl ()))
noncomputable def slices_IsSortedFunc_api_RefEvent_at_history_Valid_4 (a0 : List api_RefEvent) : Option (Bool) :=
 (iter (slices_IsSortedFunc_api_RefEvent_at_history_Valid_4_l0 a0) (IntKind.i64.wrap (((a0).length : Int) - 1))).bind fun q7 =>
 match q7 with
 | .inl v1 =>
   some true
 | .inr r6 =>
   some r6
noncomputable def history_Valid_j1 (s9 : Int × (List (ByteArray × Bool))) (v11 : (List (ByteArray × Bool))) : Option (Lp (Int × (List (ByteArray × Bool))) (Unit ⊕ Int)) :=
 if (decide (32 < ((v11).length : Int))) = true then
   some (.out (.inr 3))
 else
   some (.go (IntKind.i64.wrap (s9.1 + 1), v11))
noncomputable def history_Valid_l0 (a0 : api_Repository) (s9 : Int × (List (ByteArray × Bool))) : Option (Lp (Int × (List (ByteArray × Bool))) (Unit ⊕ Int)) :=
 if (decide (s9.1 < ((a0.Events).length : Int))) = true then
   (idx a0.Events s9.1).bind fun x10 =>
   if (x10.Kind == 1) = true then
     history_Valid_j1 s9 (mset stE s9.2 x10.Name true)
   else
     history_Valid_j1 s9 (mdel stE s9.2 x10.Name)
 else
   some (.out (.inl ()))
noncomputable def history_Valid (a0 : api_Repository) : Option (Int) :=
 (some ((decide (400 < ((a0.Objects).length : Int))) || (decide (300 < ((a0.Events).length : Int))))).bind fun v1 =>
 if v1 = true then
   some 3
 else
 Option.bind (
   (slices_ContainsFunc_api_Object_at_history_Valid_1 a0.Objects).bind fun y16 =>
   if y16 = true then
     some true
   else
   (slices_ContainsFunc_api_RefEvent_at_history_wrong a0.Events).bind fun y17 =>
   some y17) fun v2 =>
 if v2 = true then
   some 1
 else
 (history_index a0).bind fun y3 =>
 if (!y3.2) = true then
   some 7
 else
 Option.bind (
   (slices_ContainsFunc_api_Object_at_history_Valid_2_b a0.Objects y3.1).bind fun y14 =>
   if y14.1 = true then
     some (true, y14.2)
   else
   (history_nameless a0 y14.2).bind fun y15 =>
   some (y15, y14.2)) fun v4 =>
 if v4.1 = true then
   some 6
 else
 (history_cycle v4.2).bind fun y5 =>
 if y5 = true then
   some 8
 else
 (slices_ContainsFunc_api_RefEvent_at_history_Valid_3 a0.Events).bind fun y6 =>
 if y6 = true then
   some 2
 else
 (slices_IsSortedFunc_api_RefEvent_at_history_Valid_4 a0.Events).bind fun y7 =>
 if (!y7) = true then
   some 11
 else
 (iter (history_Valid_l0 a0) (0, [])).bind fun q13 =>
 match q13 with
 | .inl v8 =>
   some 0
 | .inr r12 =>
   some r12
noncomputable def history_refs_l0 (a0 : api_Repository) (a1 : Int) (s2 : Int × (List (ByteArray × Int))) : Option (Lp (Int × (List (ByteArray × Int))) (List (ByteArray × Int))) :=
 if (decide (s2.1 < ((a0.Events).length : Int))) = true then
   (idx a0.Events s2.1).bind fun x3 =>
   if (decide (a1 < x3.Time)) = true then
     some (.out s2.2)
   else
   if (x3.Kind == 1) = true then
     some (.go (IntKind.i64.wrap (s2.1 + 1), (mset stE s2.2 x3.Name x3.Commit)))
   else
     some (.go (IntKind.i64.wrap (s2.1 + 1), (mdel stE s2.2 x3.Name)))
 else
   some (.out s2.2)
noncomputable def history_refs (a0 : api_Repository) (a1 : Int) : Option ((List (ByteArray × Int))) :=
 (iter (history_refs_l0 a0 a1) (0, [])).bind fun v1 =>
 some v1
noncomputable def walk_index_1_cro (a0 : api_Item) (a1 : List (Int × api_Object)) : Option (Bool) :=
 (some (((((mget inE a1 a0.ID).getD (⟨0, 0, [], [], 0, [], ByteArray.empty, 0⟩ : api_Object)).Kind) == 2) && (((((mget inE a1 a0.ID).getD (⟨0, 0, [], [], 0, [], ByteArray.empty, 0⟩ : api_Object)).Items).length : Int) == 0))).bind fun v1 =>
 some v1
noncomputable def walk_before_1_crorororo (a0 : Int) (a1 : List (Int × Int)) (a2 : Int) (a3 : List (Int × api_Object)) (a4 : Int) : Option (Bool) :=
 (some ((decide (a2 < ((mget inE a1 a0).getD 0))) || ((((mget inE a3 a0).getD (⟨0, 0, [], [], 0, [], ByteArray.empty, 0⟩ : api_Object)).Kind) != a4))).bind fun v1 =>
 some v1
noncomputable def slices_IndexFunc_int_at_walk_before_1_rorororo_l0 (a0 : List Int) (b10 : List (Int × Int)) (b11 : Int) (b12 : List (Int × api_Object)) (b13 : Int) (s2 : Int) : Option (Lp Int (Unit ⊕ Int)) :=
 if (decide (s2 < ((a0).length : Int))) = true then
   (idx a0 s2).bind fun x3 =>
   (walk_before_1_crorororo x3 b10 b11 b12 b13).bind fun y4 =>
   if y4 = true then
     some (.out (.inr s2))
   else
     some (.go (IntKind.i64.wrap (s2 + 1)))
 else
   some (.out (.inl ()))
noncomputable def slices_IndexFunc_int_at_walk_before_1_rorororo (a0 : List Int) (b10 : List (Int × Int)) (b11 : Int) (b12 : List (Int × api_Object)) (b13 : Int) : Option (Int) :=
 (iter (slices_IndexFunc_int_at_walk_before_1_rorororo_l0 a0 b10 b11 b12 b13) 0).bind fun q6 =>
 match q6 with
 | .inl v1 =>
   some (-1)
 | .inr r5 =>
   some r5
noncomputable def slices_DeleteFunc_int_eat0_at_walk_before_1_rorororo_own0_l0 (b10 : List (Int × Int)) (b11 : Int) (b12 : List (Int × api_Object)) (b13 : Int) (s4 : Int × Int × (List Int)) : Option (Lp (Int × Int × (List Int)) (Int × (List Int))) :=
 if (decide (s4.2.1 < ((s4.2.2).length : Int))) = true then
   (ck (0 ≤ s4.2.1 ∧ (Int.toNat s4.2.1) < (s4.2.2).length)).bind fun _ =>
   (idx s4.2.2 s4.2.1).bind fun x5 =>
   (walk_before_1_crorororo x5 b10 b11 b12 b13).bind fun y6 =>
   if (!y6) = true then
     (ck (0 ≤ s4.1 ∧ (Int.toNat s4.1) < (s4.2.2).length)).bind fun _ =>
     (idx s4.2.2 s4.1).bind fun x7 =>
     some (.go (IntKind.i64.wrap (s4.1 + 1), IntKind.i64.wrap (s4.2.1 + 1), (s4.2.2.set (Int.toNat s4.1) x5)))
   else
     some (.go (s4.1, IntKind.i64.wrap (s4.2.1 + 1), s4.2.2))
 else
   some (.out (s4.1, s4.2.2))
noncomputable def slices_DeleteFunc_int_eat0_at_walk_before_1_rorororo_own0 (a0 : List Int) (b10 : List (Int × Int)) (b11 : Int) (b12 : List (Int × api_Object)) (b13 : Int) : Option ((List Int)) :=
 (slices_IndexFunc_int_at_walk_before_1_rorororo a0 b10 b11 b12 b13).bind fun y1 =>
 if (y1 == (-1)) = true then
   some a0
 else
 (iter (slices_DeleteFunc_int_eat0_at_walk_before_1_rorororo_own0_l0 b10 b11 b12 b13) (y1, IntKind.i64.wrap (y1 + 1), a0)).bind fun v2 =>
 (ck (0 ≤ v2.1 ∧ v2.1 ≤ (((v2.2).length : Nat) : Int) ∧ (((v2.2).length : Nat) : Int) ≤ (((v2.2).length : Nat) : Int))).bind fun _ =>
 (some ((((v2.2).take (Int.toNat v2.1)) ++ List.replicate ((v2.2).length - (Int.toNat v2.1)) 0) : List Int)).bind fun l3 =>
 (ck (0 ≤ 0 ∧ 0 ≤ v2.1 ∧ v2.1 ≤ (((l3).length : Nat) : Int))).bind fun _ =>
 some ((l3).take (Int.toNat v2.1))
noncomputable def slices_IndexFunc_api_Item_at_walk_index_1_ro_l0 (a0 : List api_Item) (b10 : List (Int × api_Object)) (s2 : Int) : Option (Lp Int (Unit ⊕ Int)) :=
 if (decide (s2 < ((a0).length : Int))) = true then
   (idx a0 s2).bind fun x3 =>
   (walk_index_1_cro x3 b10).bind fun y4 =>
   if y4 = true then
     some (.out (.inr s2))
   else
     some (.go (IntKind.i64.wrap (s2 + 1)))
 else
   some (.out (.inl ()))
noncomputable def slices_IndexFunc_api_Item_at_walk_index_1_ro (a0 : List api_Item) (b10 : List (Int × api_Object)) : Option (Int) :=
 (iter (slices_IndexFunc_api_Item_at_walk_index_1_ro_l0 a0 b10) 0).bind fun q6 =>
 match q6 with
 | .inl v1 =>
   some (-1)
 | .inr r5 =>
   some r5
noncomputable def slices_DeleteFunc_api_Item_eat0_at_walk_index_1_ro_own0_l0 (b10 : List (Int × api_Object)) (s4 : Int × Int × (List api_Item)) : Option (Lp (Int × Int × (List api_Item)) (Int × (List api_Item))) :=
 if (decide (s4.2.1 < ((s4.2.2).length : Int))) = true then
   (ck (0 ≤ s4.2.1 ∧ (Int.toNat s4.2.1) < (s4.2.2).length)).bind fun _ =>
   (idx s4.2.2 s4.2.1).bind fun x5 =>
   (walk_index_1_cro x5 b10).bind fun y6 =>
   if (!y6) = true then
     (ck (0 ≤ s4.1 ∧ (Int.toNat s4.1) < (s4.2.2).length)).bind fun _ =>
     (idx s4.2.2 s4.1).bind fun x7 =>
     some (.go (IntKind.i64.wrap (s4.1 + 1), IntKind.i64.wrap (s4.2.1 + 1), (s4.2.2.set (Int.toNat s4.1) x5)))
   else
     some (.go (s4.1, IntKind.i64.wrap (s4.2.1 + 1), s4.2.2))
 else
   some (.out (s4.1, s4.2.2))
noncomputable def slices_DeleteFunc_api_Item_eat0_at_walk_index_1_ro_own0 (a0 : List api_Item) (b10 : List (Int × api_Object)) : Option ((List api_Item)) :=
 (slices_IndexFunc_api_Item_at_walk_index_1_ro a0 b10).bind fun y1 =>
 if (y1 == (-1)) = true then
   some a0
 else
 (iter (slices_DeleteFunc_api_Item_eat0_at_walk_index_1_ro_own0_l0 b10) (y1, IntKind.i64.wrap (y1 + 1), a0)).bind fun v2 =>
 (ck (0 ≤ v2.1 ∧ v2.1 ≤ (((v2.2).length : Nat) : Int) ∧ (((v2.2).length : Nat) : Int) ≤ (((v2.2).length : Nat) : Int))).bind fun _ =>
 (some ((((v2.2).take (Int.toNat v2.1)) ++ List.replicate ((v2.2).length - (Int.toNat v2.1)) (⟨ByteArray.empty, 0⟩ : api_Item)) : List api_Item)).bind fun l3 =>
 (ck (0 ≤ 0 ∧ 0 ≤ v2.1 ∧ v2.1 ≤ (((l3).length : Nat) : Int))).bind fun _ =>
 some ((l3).take (Int.toNat v2.1))
end Go.Vl
namespace Go.Vl
open Go Go.Proofs
set_option maxHeartbeats 1000000 in
theorem make_Tape_Next_ok {a0 : make_Tape} {a1 : Int} {r : Int × make_Tape} (h0 : make_Tape_Next a0 a1 = some r) : FnOK Tryz.prog 8 [make_Tape_av a0] [.ptr (InO 0) 0, .d (.int .i64 a1)] (.d (.int .i64 r.1)) [make_Tape_av r.2] := by
 unfold make_Tape_Next at h0
 refine fn_ok (nt := 37) (rs := [.tmp 4]) Tryz.func8 rfl Tryz.ntmps8 rfl (by simp) (by decide) rfl fun K => ?_
 refine kr [0, 1] (by simp; rfl) ?_
 refine tr_seq ?_
 refine kd [[], [0], [1], [2], [], [4], [5], [6], [7], [3, 8]] [] [] none [] 10 fol (by decide +kernel) (by simp) ?_
 refine dr_go 0 2 rfl (by simp (maxSteps := 1000000); rfl) ?_
 refine dr_go 2 2 rfl (by simp (maxSteps := 1000000); rfl) ?_
 refine dr_go 4 2 rfl (by simp (maxSteps := 1000000); rfl) ?_
 refine dr_go 6 2 rfl (by simp (maxSteps := 1000000); rfl) ?_
 refine dr_go 8 2 rfl (by simp (maxSteps := 1000000); rfl) ?_
 refine dr_end rfl (tops_nil ?_)
 refine tr_cond (b := (decide (((a0.L).length : Int) ≤ a0.at_))) (by simp) (fun c1 => ?_) (fun c1 => ?_)
 · rw [if_pos c1] at h0
   refine kr [4] (by simp; rfl) ?_
   cases h0
   exact tr_ret ⟨[], by simp, rfl, by simp⟩
 · rw [if_neg (by rw [c1]; decide)] at h0
   refine tr_skip ?_
   refine kd [[], [0], [1], [2], [], [4], [5], [6], [3, 7], [8], [9], [10]] [] [] none [] 12 fol (by decide +kernel) (by simp) ?_
   replace h0 := bnd h0; obtain ⟨x1, p3, h0⟩ := h0
   replace p3 := idx_some p3
   have p3' := p3; try simp at p3'
   refine dr_go 0 2 rfl (by simp (maxSteps := 1000000) [p3, p3']; rfl) ?_
   refine dr_go 2 2 rfl (by simp (maxSteps := 1000000) [p3, p3']; rfl) ?_
   refine dr_go 4 2 rfl (by simp (maxSteps := 1000000) [p3, p3']; rfl) ?_
   refine dr_go 6 2 rfl (by simp (maxSteps := 1000000) [p3, p3']; rfl) ?_
   refine dr_go 8 2 rfl (by simp (maxSteps := 1000000) [p3, p3']; rfl) ?_
   refine dr_go 10 2 rfl (by simp (maxSteps := 1000000) [p3, p3']; rfl) ?_
   refine dr_end rfl (tops_nil ?_)
   refine kr [1, 5] (by simp; rfl) ?_
   replace h0 := bnd h0; obtain ⟨_, p4, h0⟩ := h0
   replace p4 := ck_some p4
   have p4' := p4; try simp at p4'
   refine kr [4] (by simp [p4, p4']; rfl) ?_
   cases h0
   exact tr_ret ⟨[], by simp, rfl, by simp⟩
set_option maxHeartbeats 1000000 in
theorem make_Tape_Between_ok {a0 : make_Tape} {a1 : Int} {a2 : Int} {r : Int × make_Tape} (h0 : make_Tape_Between a0 a1 a2 = some r) : FnOK Tryz.prog 22 [make_Tape_av a0] [.ptr (InO 0) 0, .d (.int .i64 a1), .d (.int .i64 a2)] (.d (.int .i64 r.1)) [make_Tape_av r.2] := by
 unfold make_Tape_Between at h0
 refine fn_ok (nt := 15) (rs := [.tmp 6]) Tryz.func22 rfl Tryz.ntmps22 rfl (by simp) (by decide) rfl fun K => ?_
 refine kr [0, 1, 2] (by simp; rfl) ?_
 refine kc ?_
 refine ko [7, 8, 12] 6 (by simp; rfl) ?_
 replace h0 := bnd h0; obtain ⟨y1, hy1, h0⟩ := h0
 refine kcall [7, 13] [1000000] (make_Tape_Next_ok hy1) rfl rfl rfl Tryz.call8 (by simp) (by simp; rfl) ?_
 refine ko [6] 2 (by simp; rfl) ?_
 refine tops_nil ?_
 cases h0
 exact tr_ret ⟨[], by simp, rfl, by simp⟩
set_option maxHeartbeats 1000000 in
theorem make_Bytes_ok {a0 : make_Tape} {a1 : Int} {r : (List Int) × make_Tape} (h0 : make_Bytes a0 a1 = some r) : FnOK Tryz.prog 23 [make_Tape_av a0] [.ptr (InO 0) 0, .d (.int .i64 a1)] (.d (.slice (rowsF (iRow .u8) r.1))) [make_Tape_av r.2] := by
 unfold make_Bytes at h0
 refine fn_ok (nt := 47) (rs := [.tmp 4]) Tryz.func23 rfl Tryz.ntmps23 rfl (by simp) (by decide) rfl fun K => ?_
 refine kr [0, 1] (by simp; rfl) ?_
 refine kr [0, 1, 5] (by simp; rfl) ?_
 refine tr_seq ?_
 refine kr [0, 1, 5, 6] (by simp; rfl) ?_
 refine tr_wk (wk_own 5 27 5 1 (by simp) (by simp)) ?_
 replace h0 := bnd h0; obtain ⟨e1, hI1, h0⟩ := h0
 refine tjv (fun v1 : (List Int) × Int × (List Int) => ({ nt := 47, env := [(5, .vec 27)], box := [(1000000, [.d (.slice (rowsF (iRow .i64) v1.1)), .d (.int .i64 v1.2.1)])], vec := [(27, ⟨5, 1, rowsF (iRow .u8) v1.2.2⟩)] } : St)) (fun v1 => v1 = e1) (fun v1 hI1e _ W1 => ?_) ?_
 · subst hI1e
   refine tr_wk W1 ?_
   refine kr [4] (by simp; rfl) ?_
   cases h0
   exact tr_ret ⟨[27], by simp, rfl, by simp⟩
 · refine tr_block (tr_iter (fun s2 : Int × (List Int) × Int × (List Int) => ({ nt := 47, env := [(0, .ptr 1000000 0), (1, .d (.int .i64 a1)), (5, .vec 27), (6, .d (.int .i64 s2.1))], box := [(1000000, [.d (.slice (rowsF (iRow .i64) s2.2.1)), .d (.int .i64 s2.2.2.1)])], vec := [(27, ⟨5, 1, rowsF (iRow .u8) s2.2.2.2⟩)] } : St)) hI1 (wk (by simp [weak_iff])) fun G1 s2 o1 h1 hg1 he1 => ?_)
   unfold make_Bytes_l0 at h1
   refine tr_seq ?_
   refine kr [0, 1, 5, 6, 9] (by simp; rfl) ?_
   refine tr_cond (b := (decide (s2.1 < a1))) (by simp) (fun c16 => ?_) (fun c16 => ?_)
   · rw [if_pos c16] at h1
     refine tr_skip ?_
     refine tr_seq ?_
     refine tr_block ?_
     refine kc ?_
     refine ko [0, 1, 5, 6, 12] 1 (by simp; rfl) ?_
     replace h1 := bnd h1; obtain ⟨y3, hy3, h1⟩ := h1
     refine kcall [0, 1, 5, 6, 13] [1000000] (make_Tape_Next_ok hy3) rfl rfl rfl Tryz.call8 (by simp) (by simp; rfl) ?_
     refine tops_nil ?_
     refine tr_block ?_
     refine kr [0, 1, 5, 6, 13, 20] (by simp; rfl) ?_
     refine tr_cond (b := (y3.1 == 0)) (by simp) (fun c17 => ?_) (fun c17 => ?_)
     · rw [if_pos c17] at h1
       refine kc1 ?_
       refine ko [0, 1, 6, 22, 23] 2 (by simp; rfl) ?_
       replace h1 := bnd h1; obtain ⟨y4, hy4, h1⟩ := h1
       refine kcall [0, 1, 6, 22, 24] [1000000] (make_Tape_Next_ok hy4) rfl rfl rfl Tryz.call8 (by simp) (by simp; rfl) ?_
       replace h1 := bnd h1; obtain ⟨x5, p21, h1⟩ := h1
       have ix22 : indexVA Tryz.prog 9 (.d (.str (⟨#[32, 10, 61, 37, 43, 47, 45, 46]⟩ : ByteArray))) y4.1 = some (.d (.int .u8 x5)) := index_str Tryz.underlying9 p21
       replace h1 := bnd h1; obtain ⟨_, p23, h1⟩ := h1
       replace p23 := ck_some p23
       have p23' := p23; try simp at p23'
       refine ko [0, 1, 5, 6] 4 (by simp [ix22, -indexVA, p23, p23']; rfl) ?_
       refine tops_nil ?_
       refine lr (by simp; rfl) ?_
       exact ⟨_, hg1 _ (Option.some.inj h1), wk (by simp [weak_iff])⟩
     · rw [if_neg (by rw [c17]; decide)] at h1
       refine kr [0, 1, 5, 6, 13, 28] (by simp; rfl) ?_
       refine tr_cond (b := (y3.1 == 1)) (by simp) (fun c18 => ?_) (fun c18 => ?_)
       · rw [if_pos c18] at h1
         refine kc1 ?_
         refine ko [0, 1, 6, 30, 31] 2 (by simp; rfl) ?_
         replace h1 := bnd h1; obtain ⟨y6, hy6, h1⟩ := h1
         refine kcall [0, 1, 6, 30, 32] [1000000] (make_Tape_Next_ok hy6) rfl rfl rfl Tryz.call8 (by simp) (by simp; rfl) ?_
         replace h1 := bnd h1; obtain ⟨_, p24, h1⟩ := h1
         replace p24 := ck_some p24
         have p24' := p24; try simp at p24'
         refine ko [0, 1, 5, 6] 4 (by simp [p24, p24']; rfl) ?_
         refine tops_nil ?_
         refine lr (by simp; rfl) ?_
         exact ⟨_, hg1 _ (Option.some.inj h1), Wk.trans (wk_ren 35 27) (wk (by simp [weak_iff]))⟩
       · rw [if_neg (by rw [c18]; decide)] at h1
         refine sjv (fun v7 : Bool => ({ nt := 47, env := [(0, .ptr 1000000 0), (1, .d (.int .i64 a1)), (5, .vec 27), (6, .d (.int .i64 s2.1)), (36, .d (.bool v7))], box := [(1000000, [.d (.slice (rowsF (iRow .i64) y3.2.L)), .d (.int .i64 y3.2.at_)])], vec := [(27, ⟨5, 1, rowsF (iRow .u8) s2.2.2.2⟩)] } : St)) (fun v7 => make_Bytes_j1 y3 s2 v7 = some o1) (fun v7 h1 => ?_) ?_
         · unfold make_Bytes_j1 at h1
           refine tr_cond (b := v7) (by simp) (fun c20 => ?_) (fun c20 => ?_)
           · rw [if_pos c20] at h1
             refine kc1 ?_
             refine ko [0, 1, 6, 39, 40] 2 (by simp; rfl) ?_
             replace h1 := bnd h1; obtain ⟨y8, hy8, h1⟩ := h1
             refine kcall [0, 1, 6, 39, 41] [1000000] (make_Tape_Next_ok hy8) rfl rfl rfl Tryz.call8 (by simp) (by simp; rfl) ?_
             replace h1 := bnd h1; obtain ⟨_, p25, h1⟩ := h1
             replace p25 := ck_some p25
             have p25' := p25; try simp at p25'
             refine ko [0, 1, 5, 6] 5 (by simp [p25, p25']; rfl) ?_
             refine tops_nil ?_
             refine lr (by simp; rfl) ?_
             exact ⟨_, hg1 _ (Option.some.inj h1), Wk.trans (wk_ren 45 27) (wk (by simp [weak_iff]))⟩
           · rw [if_neg (by rw [c20]; decide)] at h1
             refine kc1 ?_
             refine ko [0, 1, 6, 14, 15] 2 (by simp; rfl) ?_
             replace h1 := bnd h1; obtain ⟨y9, hy9, h1⟩ := h1
             refine kcall [0, 1, 6, 14, 16] [1000000] (make_Tape_Next_ok hy9) rfl rfl rfl Tryz.call8 (by simp) (by simp; rfl) ?_
             replace h1 := bnd h1; obtain ⟨x10, p26, h1⟩ := h1
             have ix27 : indexVA Tryz.prog 9 (.d (.str (⟨#[97, 98, 99, 100, 101, 102, 116, 107]⟩ : ByteArray))) y9.1 = some (.d (.int .u8 x10)) := index_str Tryz.underlying9 p26
             replace h1 := bnd h1; obtain ⟨_, p28, h1⟩ := h1
             replace p28 := ck_some p28
             have p28' := p28; try simp at p28'
             refine ko [0, 1, 5, 6] 4 (by simp [ix27, -indexVA, p28, p28']; rfl) ?_
             refine tops_nil ?_
             refine lr (by simp; rfl) ?_
             exact ⟨_, hg1 _ (Option.some.inj h1), Wk.trans (wk_ren 19 27) (wk (by simp [weak_iff]))⟩
         · refine kr [0, 1, 5, 6, 13, 36] (by simp; rfl) ?_
           refine tr_cond (b := (y3.1 == 2)) (by simp) (fun c21 => ?_) (fun c21 => ?_)
           · rw [if_pos c21] at h1
             refine tr_skip ?_
             exact ⟨_, h1, wk (by simp [weak_iff])⟩
           · rw [if_neg (by rw [c21]; decide)] at h1
             refine lr (by simp; rfl) ?_
             exact ⟨_, h1, wk (by simp [weak_iff])⟩
   · rw [if_neg (by rw [c16]; decide)] at h1
     refine tr_exit ?_
     exact ⟨_, he1 _ (Option.some.inj h1), wk (by simp [weak_iff])⟩
set_option maxHeartbeats 1000000 in
theorem make_Events_ok {a0 : make_Tape} {a1 : List Int} {r : (List api_RefEvent) × make_Tape} (h0 : make_Events a0 a1 = some r) : FnOK Tryz.prog 24 [make_Tape_av a0] [.ptr (InO 0) 0, .d (.slice (rowsF (iRow .i64) a1))] (.d (.slice (rowsF api_RefEvent_row r.1))) [make_Tape_av r.2] := by
 unfold make_Events at h0
 refine fn_ok (nt := 60) (rs := [.tmp 4]) Tryz.func24 rfl Tryz.ntmps24 rfl (by simp) (by decide) rfl fun K => ?_
 refine kr [0, 1] (by simp; rfl) ?_
 refine kr [0, 1, 5] (by simp; rfl) ?_
 refine kr [0, 1, 5, 6] (by simp; rfl) ?_
 refine kc ?_
 refine ko [0, 1, 5, 6, 11] 1 (by simp; rfl) ?_
 replace h0 := bnd h0; obtain ⟨y1, hy1, h0⟩ := h0
 refine kcall [0, 1, 5, 6, 12] [1000000] (make_Tape_Next_ok hy1) rfl rfl rfl Tryz.call8 (by simp) (by simp; rfl) ?_
 refine ko [0, 1, 5, 6, 7] 1 (by simp; rfl) ?_
 refine tops_nil ?_
 refine tr_seq ?_
 refine kc ?_
 refine ko [0, 1, 5, 6, 7, 13] 1 (by simp; rfl) ?_
 replace h0 := bnd h0; obtain ⟨y2, hy2, h0⟩ := h0
 refine kcall [0, 1, 5, 6, 7, 14] [1000000] (make_Tape_Next_ok hy2) rfl rfl rfl Tryz.call8 (by simp) (by simp; rfl) ?_
 refine ko [0, 1, 5, 6, 7, 8] 1 (by simp; rfl) ?_
 refine tops_nil ?_
 refine tr_wk (wk_own 5 43 89 4 (by simp) (by simp)) ?_
 replace h0 := bnd h0; obtain ⟨e1, hI1, h0⟩ := h0
 refine tjv (fun v3 : (List Int) × Int × (List api_RefEvent) => ({ nt := 60, env := [(5, .vec 43)], box := [(1000000, [.d (.slice (rowsF (iRow .i64) v3.1)), .d (.int .i64 v3.2.1)])], vec := [(43, ⟨89, 4, rowsF api_RefEvent_row v3.2.2⟩)] } : St)) (fun v3 => v3 = e1) (fun v3 hI1e _ W1 => ?_) ?_
 · subst hI1e
   refine tr_wk W1 ?_
   refine kr [4] (by simp; rfl) ?_
   cases h0
   exact tr_ret ⟨[43], by simp, rfl, by simp⟩
 · refine tr_block (tr_iter (fun s4 : Int × Int × (List Int) × Int × (List (ByteArray × Bool)) × (List api_RefEvent) => ({ nt := 60, env := [(0, .ptr 1000000 0), (1, .d (.slice (rowsF (iRow .i64) a1))), (5, .vec 43), (6, .vec 10), (7, .d (.int .i64 s4.1)), (8, .d (.int .i64 s4.2.1))], box := [(1000000, [.d (.slice (rowsF (iRow .i64) s4.2.2.1)), .d (.int .i64 s4.2.2.2.1)])], vec := [(10, ⟨mTag 87 1 false false, 2, rowsF (mRow sRow bRow) s4.2.2.2.2.1⟩), (43, ⟨89, 4, rowsF api_RefEvent_row s4.2.2.2.2.2⟩)] } : St)) hI1 (wk (by simp [weak_iff])) fun G1 s4 o1 h1 hg1 he1 => ?_)
   unfold make_Events_l0 at h1
   refine tr_seq ?_
   refine kr [0, 1, 5, 6, 7, 8, 16] (by simp; rfl) ?_
   refine tr_cond (b := (decide (0 < s4.2.1))) (by simp) (fun c10 => ?_) (fun c10 => ?_)
   · rw [if_pos c10] at h1
     refine tr_skip ?_
     refine tr_seq ?_
     refine tr_block ?_
     refine kc ?_
     refine ko [0, 1, 5, 6, 8, 19, 20] 2 (by simp; rfl) ?_
     replace h1 := bnd h1; obtain ⟨y5, hy5, h1⟩ := h1
     refine kcall [0, 1, 5, 6, 8, 19, 21] [1000000] (make_Tape_Next_ok hy5) rfl rfl rfl Tryz.call8 (by simp) (by simp; rfl) ?_
     refine ko [0, 1, 5, 6, 7, 8] 2 (by simp; rfl) ?_
     refine tops_nil ?_
     refine kc ?_
     refine ko [0, 1, 5, 6, 7, 8, 23, 24] 2 (by simp; rfl) ?_
     replace h1 := bnd h1; obtain ⟨y6, hy6, h1⟩ := h1
     refine kcall [0, 1, 5, 6, 7, 8, 23, 25] [1000000] (make_Tape_Next_ok hy6) rfl rfl rfl Tryz.call8 (by simp) (by simp; rfl) ?_
     replace h1 := bnd h1; obtain ⟨_, p16, h1⟩ := h1
     replace p16 := ck_some p16
     have p16' := p16; try simp at p16'
     have p16o : y6.1 < ((([(⟨#[109, 97, 105, 110]⟩ : ByteArray), (⟨#[111, 108, 100]⟩ : ByteArray), (⟨#[120]⟩ : ByteArray)])).length : Int) := by omega
     replace h1 := bnd h1; obtain ⟨x7, p17, h1⟩ := h1
     replace p17 := idx_some p17
     have p17' := p17; try simp at p17'
     have p17q : (rowsF sRow [(⟨#[109, 97, 105, 110]⟩ : ByteArray), (⟨#[111, 108, 100]⟩ : ByteArray), (⟨#[120]⟩ : ByteArray)])[(Int.toNat y6.1)]? = some (sRow x7) := by (first | (rw [rowsF_get, p17.2]; rfl) | (have q := p17.2; simp at q; subst q; rfl))
     try simp [-getElem?_pos] at p17q
     refine ko [0, 1, 5, 6, 7, 8, 9] 3 (by simp [-getElem?_pos, List.getElem?_cons_zero, List.getElem?_cons_succ, p16, p16o, p17, p17q, p16', p17']; rfl) ?_
     refine tops_nil ?_
     refine tr_seq ?_
     replace h1 := bnd h1; obtain ⟨v8, hvv8, h1⟩ := h1
     refine sjv (fun v8_ : Bool × (List Int) × Int => ({ nt := 60, env := [(0, .ptr 1000000 0), (1, .d (.slice (rowsF (iRow .i64) a1))), (5, .vec 43), (6, .vec 10), (7, .d (.int .i64 (IntKind.i64.wrap (s4.1 + y5.1)))), (8, .d (.int .i64 s4.2.1)), (9, .d (.str x7)), (35, .d (.bool v8_.1))], box := [(1000000, [.d (.slice (rowsF (iRow .i64) v8_.2.1)), .d (.int .i64 v8_.2.2)])], vec := [(10, ⟨mTag 87 1 false false, 2, rowsF (mRow sRow bRow) s4.2.2.2.2.1⟩), (43, ⟨89, 4, rowsF api_RefEvent_row s4.2.2.2.2.2⟩)] } : St)) (fun v8_ => v8 = v8_) (fun v8_ e => ?_) ?_
     · subst e
       refine tr_cond (b := v8.1) (by simp) (fun c13 => ?_) (fun c13 => ?_)
       · rw [if_pos c13] at h1
         refine kr [0, 1, 5, 6, 7, 8, 9] (by simp; rfl) ?_
         replace h1 := bnd h1; obtain ⟨_, p19, h1⟩ := h1
         replace p19 := ck_some p19
         have p19' := p19; try simp at p19'
         refine kr [0, 1, 5, 6, 7, 8] (by simp [p19, p19']; rfl) ?_
         refine tr_exit ?_
         refine lr (by simp; rfl) ?_
         exact ⟨_, hg1 _ (Option.some.inj h1), wk (by simp [weak_iff])⟩
       · rw [if_neg (by rw [c13]; decide)] at h1
         refine tr_skip ?_
         refine kr [0, 1, 5, 6, 7, 8, 9] (by simp; rfl) ?_
         refine kc1 ?_
         refine ko [0, 1, 6, 7, 8, 46, 47, 48, 49, 51] 6 (by simp; rfl) ?_
         replace h1 := bnd h1; obtain ⟨y9, hy9, h1⟩ := h1
         refine kcall [0, 1, 6, 7, 8, 46, 47, 48, 52] [1000000] (make_Tape_Next_ok hy9) rfl rfl rfl Tryz.call8 (by simp) (by simp; rfl) ?_
         replace h1 := bnd h1; obtain ⟨x10, p20, h1⟩ := h1
         replace p20 := idx_some p20
         have p20' := p20; try simp at p20'
         replace h1 := bnd h1; obtain ⟨_, p21, h1⟩ := h1
         replace p21 := ck_some p21
         have p21' := p21; try simp at p21'
         refine ko [0, 1, 5, 6, 7, 8] 7 (by simp [p20, p21, p20', p21']; rfl) ?_
         refine tops_nil ?_
         refine lr (by simp; rfl) ?_
         exact ⟨_, hg1 _ (Option.some.inj h1), Wk.trans (wk_ren 58 43) (wk (by simp [weak_iff]))⟩
     · refine kc1 ?_
       refine ko [0, 1, 5, 6, 7, 8, 9, 31] 4 (by simp; rfl) ?_
       refine tops_split 31 ((mget stE s4.2.2.2.2.1 x7).getD false) (by simp) (fun c14 => ?_) (fun c14 => ?_)
       · rw [if_pos c14] at hvv8
         refine ko [0, 1, 5, 6, 7, 8, 9, 31, 32] 1 (by simp; rfl) ?_
         replace hvv8 := bnd hvv8; obtain ⟨y11, hy11, hvv8⟩ := hvv8
         refine kcall [0, 1, 5, 6, 7, 8, 9, 31, 32, 33] [1000000] (make_Tape_Next_ok hy11) rfl rfl rfl Tryz.call8 (by simp) (by simp; rfl) ?_
         refine ko [0, 1, 5, 6, 7, 8, 9, 32, 33, 34, 35] 2 (by simp; rfl) ?_
         refine tops_nil ?_
         cases hvv8
         exact ⟨_, rfl, wk (by simp [weak_iff])⟩
       · rw [if_neg (by rw [c14]; decide)] at hvv8
         refine kskip 3 [] (by kernel_rfl) ?_
         refine ko [0, 1, 5, 6, 7, 8, 9, 35] 1 (by simp; rfl) ?_
         refine tops_nil ?_
         cases hvv8
         exact ⟨_, rfl, wk (by simp [weak_iff])⟩
   · rw [if_neg (by rw [c10]; decide)] at h1
     refine tr_exit ?_
     exact ⟨_, he1 _ (Option.some.inj h1), wk (by simp [weak_iff])⟩
set_option maxHeartbeats 1000000 in
theorem make_Repository_1_cbbo0_ok {a0 : api_Object} {a1 : Int} {a2 : api_Repository} {r : Int × Int × api_Repository} (h0 : make_Repository_1_cbbo0 a0 a1 a2 = some r) : FnOKv Tryz.prog 21 [[.d (.int .i64 a1)], [.vec (InV 0), .d (.slice (rowsF api_RefEvent_row a2.Events))]] [⟨49, 8, rowsF api_Object_row a2.Objects⟩] [.agg (api_Object_av a0), .ptr (InO 0) 0, .ptr (InO 1) 0] (.d (.int .i64 r.1)) [[.d (.int .i64 r.2.1)], [.vec (InV 0), .d (.slice (rowsF api_RefEvent_row r.2.2.Events))]] [⟨49, 8, rowsF api_Object_row r.2.2.Objects⟩] := by
 unfold make_Repository_1_cbbo0 at h0
 refine fn_okv (nt := 16) (rs := [.tmp 4]) Tryz.func21 rfl Tryz.ntmps21 rfl (by simp) (by decide) rfl fun K => ?_
 refine kr [1, 2, 3] (by simp; rfl) ?_
 refine kr [1, 2, 3] (by simp; rfl) ?_
 refine kr [1, 2, 3] (by simp; rfl) ?_
 replace h0 := bnd h0; obtain ⟨_, p2, h0⟩ := h0
 replace p2 := ck_some p2
 have p2' := p2; try simp at p2'
 refine kr [1] (by simp [p2, p2']; rfl) ?_
 refine kr [4] (by simp; rfl) ?_
 cases h0
 exact tr_ret ⟨[], [13], by simp, by simp, by simp, by simp, by simp⟩
set_option maxHeartbeats 1000000 in
theorem make_Repository_ok {a0 : make_Tape} {r : api_Repository × make_Tape} (h0 : make_Repository a0 = some r) : FnOK Tryz.prog 6 [make_Tape_av a0] [.ptr (InO 0) 0] (.agg (api_Repository_av r.1)) [make_Tape_av r.2] := by
 unfold make_Repository at h0
 refine fn_ok (nt := 143) (rs := [.cell 2 26]) Tryz.func6 rfl Tryz.ntmps6 rfl (by simp) (by decide) rfl fun K => ?_
 refine kr [0, 2] (by simp; rfl) ?_
 refine kr [0, 2, 3] (by simp; rfl) ?_
 refine kr [0, 2, 3, 4, 5, 6] (by simp; rfl) ?_
 refine kr [0, 2, 3, 4, 5, 6, 7] (by simp; rfl) ?_
 refine kr [0, 2, 3, 4, 5, 6, 8] (by simp; rfl) ?_
 refine tr_seq ?_
 refine kc ?_
 refine ko [0, 2, 3, 4, 5, 6, 8, 18] 1 (by simp; rfl) ?_
 replace h0 := bnd h0; obtain ⟨y1, hy1, h0⟩ := h0
 refine kcall [0, 2, 3, 4, 5, 6, 8, 19] [1000000] (make_Tape_Between_ok hy1) rfl rfl rfl Tryz.call22 (by simp) (by simp; rfl) ?_
 refine ko [0, 2, 3, 4, 5, 6, 8, 9] 1 (by simp; rfl) ?_
 refine tops_nil ?_
 refine tr_wk (wk_own 4 33 3 1 (by simp) (by simp)) ?_
 refine tr_wk (wk_ownbox 3 0 400120 49 8 (by simp; rfl) (by simp) (by simp)) ?_
 replace h0 := bnd h0; obtain ⟨e1, hI1, h0⟩ := h0
 refine tjv (fun v2 : (List Int) × Int × (List api_RefEvent) × Int × (List Int) × (List api_Object) => ({ nt := 143, env := [(0, .ptr 1000000 0), (2, .ptr 2 0), (3, .ptr 3 0), (4, .vec 33), (5, .nilS), (6, .nilS), (8, .fn 21 [.ptr 7 0, .ptr 3 0])], box := [(2, [.nilS, .nilS]), (3, [.vec 400120, .d (.slice (rowsF api_RefEvent_row v2.2.2.1))]), (7, [.d (.int .i64 v2.2.2.2.1)]), (1000000, [.d (.slice (rowsF (iRow .i64) v2.1)), .d (.int .i64 v2.2.1)])], vec := [(33, ⟨3, 1, rowsF (iRow .i64) v2.2.2.2.2.1⟩), (400120, ⟨49, 8, rowsF api_Object_row v2.2.2.2.2.2⟩)] } : St)) (fun v2 => v2 = e1) (fun v2 hI1e _ W1 => ?_) ?_
 · subst hI1e
   refine tr_wk W1 ?_
   refine tr_seq ?_
   refine kc ?_
   refine ko [0, 2, 3, 4, 5, 6, 8, 34] 1 (by simp; rfl) ?_
   replace h0 := bnd h0; obtain ⟨y3, hy3, h0⟩ := h0
   refine kcall [0, 2, 3, 4, 5, 6, 8, 35] [1000000] (make_Tape_Between_ok hy3) rfl rfl rfl Tryz.call22 (by simp) (by simp; rfl) ?_
   refine ko [0, 2, 3, 4, 5, 6, 8, 10] 1 (by simp; rfl) ?_
   refine tops_nil ?_
   refine tr_wk (wk_own 5 90 3 1 (by simp) (by simp)) ?_
   replace h0 := bnd h0; obtain ⟨e2, hI2, h0⟩ := h0
   refine tjv (fun v4 : (List Int) × Int × (List api_RefEvent) × Int × (List api_Object) × (List Int) => ({ nt := 143, env := [(0, .ptr 1000000 0), (2, .ptr 2 0), (3, .ptr 3 0), (5, .vec 90), (6, .nilS), (8, .fn 21 [.ptr 7 0, .ptr 3 0])], box := [(2, [.nilS, .nilS]), (3, [.vec 400120, .d (.slice (rowsF api_RefEvent_row v4.2.2.1))]), (7, [.d (.int .i64 v4.2.2.2.1)]), (1000000, [.d (.slice (rowsF (iRow .i64) v4.1)), .d (.int .i64 v4.2.1)])], vec := [(90, ⟨3, 1, rowsF (iRow .i64) v4.2.2.2.2.2⟩), (400120, ⟨49, 8, rowsF api_Object_row v4.2.2.2.2.1⟩)] } : St)) (fun v4 => v4 = e2) (fun v4 hI2e _ W2 => ?_) ?_
   · subst hI2e
     refine tr_wk W2 ?_
     refine tr_seq ?_
     refine kc ?_
     refine ko [0, 2, 3, 5, 6, 8, 91] 1 (by simp; rfl) ?_
     replace h0 := bnd h0; obtain ⟨y5, hy5, h0⟩ := h0
     refine kcall [0, 2, 3, 5, 6, 8, 92] [1000000] (make_Tape_Between_ok hy5) rfl rfl rfl Tryz.call22 (by simp) (by simp; rfl) ?_
     refine ko [0, 2, 3, 5, 6, 8, 14] 1 (by simp; rfl) ?_
     refine tops_nil ?_
     refine tr_wk (wk_own 6 137 3 1 (by simp) (by simp)) ?_
     replace h0 := bnd h0; obtain ⟨e3, hI3, h0⟩ := h0
     refine tjv (fun v6 : (List Int) × Int × (List api_RefEvent) × (List api_Object) × (List Int) => ({ nt := 143, env := [(0, .ptr 1000000 0), (2, .ptr 2 0), (3, .ptr 3 0), (6, .vec 137)], box := [(2, [.nilS, .nilS]), (3, [.vec 400120, .d (.slice (rowsF api_RefEvent_row v6.2.2.1))]), (1000000, [.d (.slice (rowsF (iRow .i64) v6.1)), .d (.int .i64 v6.2.1)])], vec := [(137, ⟨3, 1, rowsF (iRow .i64) v6.2.2.2.2⟩), (400120, ⟨49, 8, rowsF api_Object_row v6.2.2.2.1⟩)] } : St)) (fun v6 => v6 = e3) (fun v6 hI3e _ W3 => ?_) ?_
     · subst hI3e
       refine tr_wk W3 ?_
       refine kc ?_
       refine ko [2, 3, 138, 139] 2 (by simp; rfl) ?_
       refine tops_wk (wk_frz 137) ?_
       replace h0 := bnd h0; obtain ⟨y7, hy7, h0⟩ := h0
       refine kcall [2, 3, 140] [1000000] (make_Events_ok hy7) rfl rfl rfl Tryz.call24 (by simp) (by simp; rfl) ?_
       refine ko [2, 3] 2 (by simp; rfl) ?_
       refine tops_nil ?_
       refine kr [2] (by simp; rfl) ?_
       cases h0
       exact tr_ret ⟨[400120], by simp, rfl, by simp⟩
     · refine tr_block (tr_iter (fun s8 : Int × (List Int) × Int × (List api_RefEvent) × Int × (List api_Object) × (List Int) => ({ nt := 143, env := [(0, .ptr 1000000 0), (2, .ptr 2 0), (3, .ptr 3 0), (5, .vec 90), (6, .vec 137), (8, .fn 21 [.ptr 7 0, .ptr 3 0]), (14, .d (.int .i64 s8.1))], box := [(2, [.nilS, .nilS]), (3, [.vec 400120, .d (.slice (rowsF api_RefEvent_row s8.2.2.2.1))]), (7, [.d (.int .i64 s8.2.2.2.2.1)]), (1000000, [.d (.slice (rowsF (iRow .i64) s8.2.1)), .d (.int .i64 s8.2.2.1)])], vec := [(90, ⟨3, 1, rowsF (iRow .i64) v4.2.2.2.2.2⟩), (137, ⟨3, 1, rowsF (iRow .i64) s8.2.2.2.2.2.2⟩), (400120, ⟨49, 8, rowsF api_Object_row s8.2.2.2.2.2.1⟩)] } : St)) hI3 (wk (by simp [weak_iff])) fun G3 s8 o3 h3 hg3 he3 => ?_)
       unfold make_Repository_l2 at h3
       refine tr_seq ?_
       refine kr [0, 2, 3, 5, 6, 8, 14, 94] (by simp; rfl) ?_
       refine tr_cond (b := (decide (0 < s8.1))) (by simp) (fun c73 => ?_) (fun c73 => ?_)
       · rw [if_pos c73] at h3
         refine tr_skip ?_
         refine tr_seq ?_
         refine tr_block ?_
         refine kd [[], [], [], [2], [1, 3], [0, 3, 4], [3, 5], [], [3, 4, 7], [3, 6, 8], [], [3, 9, 10]] [4, 8, 10, 11] [(15, [10, 11]), (1000000, [4, 8])] none [] 12 fol (by decide +kernel) (by simp) ?_
         refine dr_go 0 2 rfl (by simp (maxSteps := 1000000); rfl) ?_
         refine dr_go 2 2 rfl (by simp (maxSteps := 1000000); rfl) ?_
         replace h3 := bnd h3; obtain ⟨y9, hy9, h3⟩ := h3
         refine dr_call 4 [1000000] (make_Tape_Next_ok hy9) rfl rfl rfl rfl rfl Tryz.call8 (by simp) ?_
         replace h3 := bnd h3; obtain ⟨_, p279, h3⟩ := h3
         replace p279 := ck_some p279
         have p279' := p279; try simp at p279'
         have p279o : y9.1 < (((v4.2.2.2.2.2)).length : Int) := by omega
         replace h3 := bnd h3; obtain ⟨x10, p280, h3⟩ := h3
         replace p280 := idx_some p280
         have p280' := p280; try simp at p280'
         refine dr_go 5 2 rfl (by simp (maxSteps := 1000000) [-getElem?_pos, List.getElem?_cons_zero, List.getElem?_cons_succ, p279, p279o, p280, p279', p280']; rfl) ?_
         refine dr_go 7 1 rfl (by simp (maxSteps := 1000000) [-getElem?_pos, List.getElem?_cons_zero, List.getElem?_cons_succ, p279, p279o, p280, p279', p280']; rfl) ?_
         replace h3 := bnd h3; obtain ⟨y11, hy11, h3⟩ := h3
         refine dr_call 8 [1000000] (make_Tape_Next_ok hy11) rfl rfl rfl rfl rfl Tryz.call8 (by simp) ?_
         refine dr_go 9 2 rfl (by simp (maxSteps := 1000000); rfl) ?_
         refine dr_go 11 1 rfl (by simp (maxSteps := 1000000); rfl) ?_
         refine dr_end rfl (tops_nil ?_)
         refine tr_seq ?_
         refine kr [0, 2, 3, 5, 6, 8, 14, 15, 16] (by simp; rfl) ?_
         refine tr_wk (wk_ownbox 15 5 130 3 1 (by simp; rfl) (by simp) (by simp)) ?_
         replace h3 := bnd h3; obtain ⟨e4, hI4, h3⟩ := h3
         refine tjv (fun v12 : (List Int) × Int × (List Int) => ({ nt := 143, env := [(0, .ptr 1000000 0), (2, .ptr 2 0), (3, .ptr 3 0), (5, .vec 90), (6, .vec 137), (8, .fn 21 [.ptr 7 0, .ptr 3 0]), (14, .d (.int .i64 s8.1)), (15, .ptr 15 0)], box := [(2, [.nilS, .nilS]), (3, [.vec 400120, .d (.slice (rowsF api_RefEvent_row s8.2.2.2.1))]), (7, [.d (.int .i64 s8.2.2.2.2.1)]), (15, [.d (.int .i64 0), .d (.int .i64 3), .nilS, .nilS, .d (.int .i64 x10), .vec 130, .d (.str (⟨#[97, 110, 110]⟩ : ByteArray)), .d (.int .i64 y11.1)]), (1000000, [.d (.slice (rowsF (iRow .i64) v12.1)), .d (.int .i64 v12.2.1)])], vec := [(90, ⟨3, 1, rowsF (iRow .i64) v4.2.2.2.2.2⟩), (130, ⟨3, 1, rowsF (iRow .i64) v12.2.2⟩), (137, ⟨3, 1, rowsF (iRow .i64) s8.2.2.2.2.2.2⟩), (400120, ⟨49, 8, rowsF api_Object_row s8.2.2.2.2.2.1⟩)] } : St)) (fun v12 => v12 = e4) (fun v12 hI4e _ W4 => ?_) ?_
         · subst hI4e
           refine tr_wk W4 ?_
           refine kc1 ?_
           refine ko [0, 2, 3, 5, 8, 14, 132, 133, 134] 3 (by simp; rfl) ?_
           refine tops_wk (wk_frz 130) ?_
           replace h3 := bnd h3; obtain ⟨y13, hy13, h3⟩ := h3
           refine kcallV [0, 2, 3, 5, 8, 14, 132, 135] [7, 3] [400120] [400120] (make_Repository_1_cbbo0_ok hy13) rfl rfl rfl Tryz.call21 (by simp) (by simp; rfl) ?_
           replace h3 := bnd h3; obtain ⟨_, p311, h3⟩ := h3
           replace p311 := ck_some p311
           have p311' := p311; try simp at p311'
           refine ko [0, 2, 3, 5, 6, 8, 14] 3 (by simp [p311, p311']; rfl) ?_
           refine tops_nil ?_
           refine lr (by simp; rfl) ?_
           exact ⟨_, hg3 _ (Option.some.inj h3), wk (by simp [weak_iff])⟩
         · refine tr_block (tr_iter (fun s14 : Int × (List Int) × Int × (List Int) => ({ nt := 143, env := [(0, .ptr 1000000 0), (2, .ptr 2 0), (3, .ptr 3 0), (5, .vec 90), (6, .vec 137), (8, .fn 21 [.ptr 7 0, .ptr 3 0]), (14, .d (.int .i64 s8.1)), (15, .ptr 15 0), (16, .d (.int .i64 s14.1))], box := [(2, [.nilS, .nilS]), (3, [.vec 400120, .d (.slice (rowsF api_RefEvent_row s8.2.2.2.1))]), (7, [.d (.int .i64 s8.2.2.2.2.1)]), (15, [.d (.int .i64 0), .d (.int .i64 3), .nilS, .nilS, .d (.int .i64 x10), .vec 130, .d (.str (⟨#[97, 110, 110]⟩ : ByteArray)), .d (.int .i64 y11.1)]), (1000000, [.d (.slice (rowsF (iRow .i64) s14.2.1)), .d (.int .i64 s14.2.2.1)])], vec := [(90, ⟨3, 1, rowsF (iRow .i64) v4.2.2.2.2.2⟩), (130, ⟨3, 1, rowsF (iRow .i64) s14.2.2.2⟩), (137, ⟨3, 1, rowsF (iRow .i64) s8.2.2.2.2.2.2⟩), (400120, ⟨49, 8, rowsF api_Object_row s8.2.2.2.2.2.1⟩)] } : St)) hI4 (wk (by simp [weak_iff])) fun G4 s14 o4 h4 hg4 he4 => ?_)
           unfold make_Repository_l3 at h4
           refine tr_seq ?_
           replace h4 := bnd h4; obtain ⟨v15, hvv15, h4⟩ := h4
           refine sjv (fun v15_ : Bool => ({ nt := 143, env := [(0, .ptr 1000000 0), (2, .ptr 2 0), (3, .ptr 3 0), (5, .vec 90), (6, .vec 137), (8, .fn 21 [.ptr 7 0, .ptr 3 0]), (14, .d (.int .i64 s8.1)), (15, .ptr 15 0), (16, .d (.int .i64 s14.1)), (117, .d (.bool v15_))], box := [(2, [.nilS, .nilS]), (3, [.vec 400120, .d (.slice (rowsF api_RefEvent_row s8.2.2.2.1))]), (7, [.d (.int .i64 s8.2.2.2.2.1)]), (15, [.d (.int .i64 0), .d (.int .i64 3), .nilS, .nilS, .d (.int .i64 x10), .vec 130, .d (.str (⟨#[97, 110, 110]⟩ : ByteArray)), .d (.int .i64 y11.1)]), (1000000, [.d (.slice (rowsF (iRow .i64) s14.2.1)), .d (.int .i64 s14.2.2.1)])], vec := [(90, ⟨3, 1, rowsF (iRow .i64) v4.2.2.2.2.2⟩), (130, ⟨3, 1, rowsF (iRow .i64) s14.2.2.2⟩), (137, ⟨3, 1, rowsF (iRow .i64) s8.2.2.2.2.2.2⟩), (400120, ⟨49, 8, rowsF api_Object_row s8.2.2.2.2.2.1⟩)] } : St)) (fun v15_ => v15 = v15_) (fun v15_ e => ?_) ?_
           · subst e
             refine tr_cond (b := v15) (by simp) (fun c85 => ?_) (fun c85 => ?_)
             · rw [if_pos c85] at h4
               refine tr_skip ?_
               refine tr_seq ?_
               refine tr_block ?_
               refine kc ?_
               refine ko [0, 2, 3, 5, 6, 8, 14, 15, 16, 120] 1 (by simp; rfl) ?_
               replace h4 := bnd h4; obtain ⟨y16, hy16, h4⟩ := h4
               refine kcall [0, 2, 3, 5, 6, 8, 14, 15, 16, 121] [1000000] (make_Tape_Next_ok hy16) rfl rfl rfl Tryz.call8 (by simp) (by simp; rfl) ?_
               refine ko [0, 2, 3, 5, 6, 8, 14, 15, 16, 122] 1 (by simp; rfl) ?_
               refine tops_nil ?_
               refine tr_cond (b := (y16.1 == 0)) (by simp) (fun c86 => ?_) (fun c86 => ?_)
               · rw [if_pos c86] at h4
                 refine tr_wk (wk_ren 130 700130) ?_
                 refine kd1 [[], [0], [], [], [2, 3], [4], [5], [1, 6], [7], [1, 7, 8]] [7, 9] [(15, [7, 9])] (some (7, 700130)) [124] 10 fol (by decide +kernel) (by simp) ?_
                 replace h4 := bnd h4; obtain ⟨_, p321, h4⟩ := h4
                 replace p321 := ck_some p321
                 have p321' := p321; try simp at p321'
                 have p321o : s14.1 < (((s8.2.2.2.2.2.2)).length : Int) := by omega
                 replace h4 := bnd h4; obtain ⟨x17, p322, h4⟩ := h4
                 replace p322 := idx_some p322
                 have p322' := p322; try simp at p322'
                 replace h4 := bnd h4; obtain ⟨_, p323, h4⟩ := h4
                 replace p323 := ck_some p323
                 have p323' := p323; try simp at p323'
                 refine dr_go 0 2 rfl (by simp (maxSteps := 1000000) [-getElem?_pos, List.getElem?_cons_zero, List.getElem?_cons_succ, p321, p321o, p322, p323, p321', p322', p323']; rfl) ?_
                 refine dr_go 2 2 rfl (by simp (maxSteps := 1000000) [-getElem?_pos, List.getElem?_cons_zero, List.getElem?_cons_succ, p321, p321o, p322, p323, p321', p322', p323']; rfl) ?_
                 refine dr_go 4 2 rfl (by simp (maxSteps := 1000000) [-getElem?_pos, List.getElem?_cons_zero, List.getElem?_cons_succ, p321, p321o, p322, p323, p321', p322', p323']; rfl) ?_
                 refine dr_go 6 2 rfl (by simp (maxSteps := 1000000) [-getElem?_pos, List.getElem?_cons_zero, List.getElem?_cons_succ, p321, p321o, p322, p323, p321', p322', p323']; rfl) ?_
                 refine dr_go 8 2 rfl (by simp (maxSteps := 1000000) [-getElem?_pos, List.getElem?_cons_zero, List.getElem?_cons_succ, p321, p321o, p322, p323, p321', p322', p323']; rfl) ?_
                 refine dr_end rfl (tops_nil ?_)
                 refine lr (by simp; rfl) ?_
                 exact ⟨_, hg4 _ (Option.some.inj h4), wk (by simp [weak_iff])⟩
               · rw [if_neg (by rw [c86]; decide)] at h4
                 refine tr_skip ?_
                 refine lr (by simp; rfl) ?_
                 exact ⟨_, hg4 _ (Option.some.inj h4), wk (by simp [weak_iff])⟩
             · rw [if_neg (by rw [c85]; decide)] at h4
               refine tr_exit ?_
               exact ⟨_, he4 _ (Option.some.inj h4), wk (by simp [weak_iff])⟩
           · refine kc1 ?_
             refine ko [0, 2, 3, 5, 6, 8, 14, 15, 16, 112] 3 (by simp; rfl) ?_
             refine tops_split 112 (decide (0 ≤ s14.1)) (by simp) (fun c87 => ?_) (fun c87 => ?_)
             · rw [c87] at hvv15
               refine ko [0, 2, 3, 5, 6, 8, 14, 15, 16, 113, 114, 115, 116, 117] 5 (by simp; rfl) ?_
               refine tops_nil ?_
               cases hvv15
               exact ⟨_, rfl, wk (by simp [weak_iff])⟩
             · rw [c87] at hvv15
               refine kskip 4 [] (by kernel_rfl) ?_
               refine ko [0, 2, 3, 5, 6, 8, 14, 15, 16, 117] 1 (by simp; rfl) ?_
               refine tops_nil ?_
               cases hvv15
               exact ⟨_, rfl, wk (by simp [weak_iff])⟩
       · rw [if_neg (by rw [c73]; decide)] at h3
         refine tr_exit ?_
         exact ⟨_, he3 _ (Option.some.inj h3), wk (by simp [weak_iff])⟩
   · refine tr_block (tr_iter (fun s18 : Int × (List Int) × Int × (List api_RefEvent) × Int × (List api_Object) × (List Int) => ({ nt := 143, env := [(0, .ptr 1000000 0), (2, .ptr 2 0), (3, .ptr 3 0), (4, .vec 33), (5, .vec 90), (6, .nilS), (8, .fn 21 [.ptr 7 0, .ptr 3 0]), (10, .d (.int .i64 s18.1))], box := [(2, [.nilS, .nilS]), (3, [.vec 400120, .d (.slice (rowsF api_RefEvent_row s18.2.2.2.1))]), (7, [.d (.int .i64 s18.2.2.2.2.1)]), (1000000, [.d (.slice (rowsF (iRow .i64) s18.2.1)), .d (.int .i64 s18.2.2.1)])], vec := [(33, ⟨3, 1, rowsF (iRow .i64) v2.2.2.2.2.1⟩), (90, ⟨3, 1, rowsF (iRow .i64) s18.2.2.2.2.2.2⟩), (400120, ⟨49, 8, rowsF api_Object_row s18.2.2.2.2.2.1⟩)] } : St)) hI2 (wk (by simp [weak_iff])) fun G4 s18 o4 h4 hg4 he4 => ?_)
     unfold make_Repository_l1 at h4
     refine tr_seq ?_
     refine kr [0, 2, 3, 4, 5, 6, 8, 10, 37] (by simp; rfl) ?_
     refine tr_cond (b := (decide (0 < s18.1))) (by simp) (fun c88 => ?_) (fun c88 => ?_)
     · rw [if_pos c88] at h4
       refine tr_skip ?_
       refine tr_seq ?_
       refine tr_block ?_
       refine kr [0, 2, 3, 4, 5, 6, 8, 10, 11] (by simp; rfl) ?_
       refine tr_seq ?_
       refine kr [0, 2, 3, 4, 5, 6, 8, 10, 11, 41, 42, 43] (by simp; rfl) ?_
       replace h4 := bnd h4; obtain ⟨l19, hl19, h4⟩ := h4
       replace hl19 := Option.some.inj hl19
       refine tr_wk (wk_ownbox 11 3 63 62 2 (by simp; rfl) (by simp) (by simp)) ?_
       replace h4 := bnd h4; obtain ⟨e5, hI5, h4⟩ := h4
       refine tjv (fun v20 : (List Int) × Int × (List api_Item) => ({ nt := 143, env := [(0, .ptr 1000000 0), (2, .ptr 2 0), (3, .ptr 3 0), (4, .vec 33), (5, .vec 90), (6, .nilS), (8, .fn 21 [.ptr 7 0, .ptr 3 0]), (10, .d (.int .i64 s18.1)), (11, .ptr 11 0)], box := [(2, [.nilS, .nilS]), (3, [.vec 400120, .d (.slice (rowsF api_RefEvent_row s18.2.2.2.1))]), (7, [.d (.int .i64 s18.2.2.2.2.1)]), (11, [.d (.int .i64 0), .d (.int .i64 2), .nilS, .vec 63, .d (.int .i64 0), .nilS, .d (.str ByteArray.empty), .d (.int .i64 0)]), (1000000, [.d (.slice (rowsF (iRow .i64) v20.1)), .d (.int .i64 v20.2.1)])], vec := [(33, ⟨3, 1, rowsF (iRow .i64) v2.2.2.2.2.1⟩), (63, ⟨62, 2, rowsF api_Item_row v20.2.2⟩), (90, ⟨3, 1, rowsF (iRow .i64) s18.2.2.2.2.2.2⟩), (400120, ⟨49, 8, rowsF api_Object_row s18.2.2.2.2.2.1⟩)] } : St)) (fun v20 => v20 = e5) (fun v20 hI5e _ W5 => ?_) ?_
       · subst hI5e
         refine tr_wk W5 ?_
         refine kc1 ?_
         refine ko [0, 2, 3, 4, 6, 8, 10, 85, 86, 87] 3 (by simp; rfl) ?_
         refine tops_wk (wk_frz 63) ?_
         replace h4 := bnd h4; obtain ⟨y21, hy21, h4⟩ := h4
         refine kcallV [0, 2, 3, 4, 6, 8, 10, 85, 88] [7, 3] [400120] [400120] (make_Repository_1_cbbo0_ok hy21) rfl rfl rfl Tryz.call21 (by simp) (by simp; rfl) ?_
         replace h4 := bnd h4; obtain ⟨_, p384, h4⟩ := h4
         replace p384 := ck_some p384
         have p384' := p384; try simp at p384'
         refine ko [0, 2, 3, 4, 5, 6, 8, 10] 3 (by simp [p384, p384']; rfl) ?_
         refine tops_nil ?_
         refine lr (by simp; rfl) ?_
         exact ⟨_, hg4 _ (Option.some.inj h4), wk (by simp [weak_iff])⟩
       · refine tr_block (tr_iter (fun s22 : Int × (List Int) × Int × (List api_Item) => ({ nt := 143, env := [(0, .ptr 1000000 0), (2, .ptr 2 0), (3, .ptr 3 0), (4, .vec 33), (5, .vec 90), (6, .nilS), (8, .fn 21 [.ptr 7 0, .ptr 3 0]), (10, .d (.int .i64 s18.1)), (11, .ptr 11 0), (41, .vec 41), (42, .d (.int .i64 (([(⟨#[97]⟩ : ByteArray), (⟨#[98]⟩ : ByteArray), (⟨#[100]⟩ : ByteArray)]).length : Int))), (43, .d (.int .i64 s22.1))], box := [(2, [.nilS, .nilS]), (3, [.vec 400120, .d (.slice (rowsF api_RefEvent_row s18.2.2.2.1))]), (7, [.d (.int .i64 s18.2.2.2.2.1)]), (11, [.d (.int .i64 0), .d (.int .i64 2), .nilS, .vec 63, .d (.int .i64 0), .nilS, .d (.str ByteArray.empty), .d (.int .i64 0)]), (1000000, [.d (.slice (rowsF (iRow .i64) s22.2.1)), .d (.int .i64 s22.2.2.1)])], vec := [(33, ⟨3, 1, rowsF (iRow .i64) v2.2.2.2.2.1⟩), (41, ⟨9, 1, rowsF sRow l19⟩), (63, ⟨62, 2, rowsF api_Item_row s22.2.2.2⟩), (90, ⟨3, 1, rowsF (iRow .i64) s18.2.2.2.2.2.2⟩), (400120, ⟨49, 8, rowsF api_Object_row s18.2.2.2.2.2.1⟩)] } : St)) hI5 (wk (by subst hl19; simp [weak_iff])) fun G5 s22 o5 h5 hg5 he5 => ?_)
         unfold make_Repository_l4 at h5
         refine kr [0, 2, 3, 4, 5, 6, 8, 10, 11, 41, 42, 43, 44] (by simp; rfl) ?_
         refine tr_seq ?_
         refine tr_cond (b := (decide (s22.1 < (([(⟨#[97]⟩ : ByteArray), (⟨#[98]⟩ : ByteArray), (⟨#[100]⟩ : ByteArray)]).length : Int)))) (by simp) (fun c101 => ?_) (fun c101 => ?_)
         · rw [if_pos c101] at h5
           refine tr_skip ?_
           refine tr_seq ?_
           refine tr_block ?_
           replace h5 := bnd h5; obtain ⟨_, p385, h5⟩ := h5
           replace p385 := ck_some p385
           have p385' := p385; try simp at p385'
           have p385o : s22.1 < (((l19)).length : Int) := by omega
           replace h5 := bnd h5; obtain ⟨x23, p386, h5⟩ := h5
           replace p386 := idx_some p386
           have p386' := p386; try simp at p386'
           refine kr [0, 2, 3, 4, 5, 6, 8, 10, 11, 13, 41, 42, 43] (by simp [-getElem?_pos, List.getElem?_cons_zero, List.getElem?_cons_succ, p385, p385o, p386, p385', p386']; rfl) ?_
           refine kc ?_
           refine ko [0, 2, 3, 4, 5, 6, 8, 10, 11, 13, 41, 42, 43, 47] 1 (by simp; rfl) ?_
           replace h5 := bnd h5; obtain ⟨y24, hy24, h5⟩ := h5
           refine kcall [0, 2, 3, 4, 5, 6, 8, 10, 11, 13, 41, 42, 43, 48] [1000000] (make_Tape_Next_ok hy24) rfl rfl rfl Tryz.call8 (by simp) (by simp; rfl) ?_
           refine tops_nil ?_
           refine tr_block ?_
           refine kr [0, 2, 3, 4, 5, 6, 8, 10, 11, 13, 41, 42, 43, 48, 49] (by simp; rfl) ?_
           refine tr_cond (b := (y24.1 == 0)) (by simp) (fun c102 => ?_) (fun c102 => ?_)
           · rw [if_pos c102] at h5
             refine tr_wk (wk_ren 63 700063) ?_
             refine kd1 [[], [0], [], [], [], [], [5], [4, 6], [3, 6, 7], [6, 8], [2, 6, 9], [6, 10], [1, 6, 7, 11], [6, 12], [1, 6, 12, 13]] [7, 12, 14] [(11, [12, 14]), (1000000, [7, 12])] (some (12, 700063)) [52] 15 fol (by decide +kernel) (by simp) ?_
             refine dr_go 0 2 rfl (by simp (maxSteps := 1000000); rfl) ?_
             refine dr_go 2 2 rfl (by simp (maxSteps := 1000000); rfl) ?_
             refine dr_go 4 2 rfl (by simp (maxSteps := 1000000); rfl) ?_
             refine dr_go 6 1 rfl (by simp (maxSteps := 1000000); rfl) ?_
             replace h5 := bnd h5; obtain ⟨y25, hy25, h5⟩ := h5
             refine dr_call 7 [1000000] (make_Tape_Next_ok hy25) rfl rfl rfl rfl rfl Tryz.call8 (by simp) ?_
             replace h5 := bnd h5; obtain ⟨_, p396, h5⟩ := h5
             replace p396 := ck_some p396
             have p396' := p396; try simp at p396'
             have p396o : y25.1 < (((v2.2.2.2.2.1)).length : Int) := by omega
             replace h5 := bnd h5; obtain ⟨x26, p397, h5⟩ := h5
             replace p397 := idx_some p397
             have p397' := p397; try simp at p397'
             replace h5 := bnd h5; obtain ⟨_, p398, h5⟩ := h5
             replace p398 := ck_some p398
             have p398' := p398; try simp at p398'
             refine dr_go 8 2 rfl (by simp (maxSteps := 1000000) [-getElem?_pos, List.getElem?_cons_zero, List.getElem?_cons_succ, p396, p396o, p397, p398, p396', p397', p398']; rfl) ?_
             refine dr_go 10 2 rfl (by simp (maxSteps := 1000000) [-getElem?_pos, List.getElem?_cons_zero, List.getElem?_cons_succ, p396, p396o, p397, p398, p396', p397', p398']; rfl) ?_
             refine dr_go 12 2 rfl (by simp (maxSteps := 1000000) [-getElem?_pos, List.getElem?_cons_zero, List.getElem?_cons_succ, p396, p396o, p397, p398, p396', p397', p398']; rfl) ?_
             refine dr_go 14 1 rfl (by simp (maxSteps := 1000000) [-getElem?_pos, List.getElem?_cons_zero, List.getElem?_cons_succ, p396, p396o, p397, p398, p396', p397', p398']; rfl) ?_
             refine dr_end rfl (tops_nil ?_)
             refine lr (by simp; rfl) ?_
             exact ⟨_, hg5 _ (Option.some.inj h5), wk (by simp [weak_iff])⟩
           · rw [if_neg (by rw [c102]; decide)] at h5
             refine kr [0, 2, 3, 4, 5, 6, 8, 10, 11, 13, 41, 42, 43, 65] (by simp; rfl) ?_
             refine tr_cond (b := (y24.1 == 1)) (by simp) (fun c103 => ?_) (fun c103 => ?_)
             · rw [if_pos c103] at h5
               refine kr [0, 2, 3, 4, 5, 6, 8, 10, 11, 13, 41, 42, 43, 69] (by simp; rfl) ?_
               refine tr_cond (b := (decide (0 < ((s18.2.2.2.2.2.2).length : Int)))) (by simp) (fun c104 => ?_) (fun c104 => ?_)
               · rw [if_pos c104] at h5
                 refine kd1 [[], [0], [], [], [], [], [5], [4, 6], [3, 6, 7], [6, 8], [2, 6, 9], [6, 10], [1, 6, 7, 11], [6, 12], [1, 6, 12, 13]] [7, 12, 14] [(11, [12, 14]), (1000000, [7, 12])] (some (12, 63)) [71] 15 fol (by decide +kernel) (by simp) ?_
                 refine dr_go 0 2 rfl (by simp (maxSteps := 1000000); rfl) ?_
                 refine dr_go 2 2 rfl (by simp (maxSteps := 1000000); rfl) ?_
                 refine dr_go 4 2 rfl (by simp (maxSteps := 1000000); rfl) ?_
                 refine dr_go 6 1 rfl (by simp (maxSteps := 1000000); rfl) ?_
                 replace h5 := bnd h5; obtain ⟨y27, hy27, h5⟩ := h5
                 refine dr_call 7 [1000000] (make_Tape_Next_ok hy27) rfl rfl rfl rfl rfl Tryz.call8 (by simp) ?_
                 replace h5 := bnd h5; obtain ⟨_, p405, h5⟩ := h5
                 replace p405 := ck_some p405
                 have p405' := p405; try simp at p405'
                 have p405o : y27.1 < (((s18.2.2.2.2.2.2)).length : Int) := by omega
                 replace h5 := bnd h5; obtain ⟨x28, p406, h5⟩ := h5
                 replace p406 := idx_some p406
                 have p406' := p406; try simp at p406'
                 replace h5 := bnd h5; obtain ⟨_, p407, h5⟩ := h5
                 replace p407 := ck_some p407
                 have p407' := p407; try simp at p407'
                 refine dr_go 8 2 rfl (by simp (maxSteps := 1000000) [-getElem?_pos, List.getElem?_cons_zero, List.getElem?_cons_succ, p405, p405o, p406, p407, p405', p406', p407']; rfl) ?_
                 refine dr_go 10 2 rfl (by simp (maxSteps := 1000000) [-getElem?_pos, List.getElem?_cons_zero, List.getElem?_cons_succ, p405, p405o, p406, p407, p405', p406', p407']; rfl) ?_
                 refine dr_go 12 2 rfl (by simp (maxSteps := 1000000) [-getElem?_pos, List.getElem?_cons_zero, List.getElem?_cons_succ, p405, p405o, p406, p407, p405', p406', p407']; rfl) ?_
                 refine dr_go 14 1 rfl (by simp (maxSteps := 1000000) [-getElem?_pos, List.getElem?_cons_zero, List.getElem?_cons_succ, p405, p405o, p406, p407, p405', p406', p407']; rfl) ?_
                 refine dr_end rfl (tops_nil ?_)
                 refine lr (by simp; rfl) ?_
                 exact ⟨_, hg5 _ (Option.some.inj h5), Wk.trans (wk_ren 82 63) (wk (by simp [weak_iff]))⟩
               · rw [if_neg (by rw [c104]; decide)] at h5
                 refine tr_skip ?_
                 refine lr (by simp; rfl) ?_
                 exact ⟨_, hg5 _ (Option.some.inj h5), wk (by simp [weak_iff])⟩
             · rw [if_neg (by rw [c103]; decide)] at h5
               refine tr_skip ?_
               refine lr (by simp; rfl) ?_
               exact ⟨_, hg5 _ (Option.some.inj h5), wk (by simp [weak_iff])⟩
         · rw [if_neg (by rw [c101]; decide)] at h5
           refine tr_exit ?_
           exact ⟨_, he5 _ (Option.some.inj h5), wk (by simp [weak_iff])⟩
     · rw [if_neg (by rw [c88]; decide)] at h4
       refine tr_exit ?_
       exact ⟨_, he4 _ (Option.some.inj h4), wk (by simp [weak_iff])⟩
 · refine tr_block (tr_iter (fun s29 : Int × (List Int) × Int × (List api_RefEvent) × Int × (List Int) × (List api_Object) => ({ nt := 143, env := [(0, .ptr 1000000 0), (2, .ptr 2 0), (3, .ptr 3 0), (4, .vec 33), (5, .nilS), (6, .nilS), (8, .fn 21 [.ptr 7 0, .ptr 3 0]), (9, .d (.int .i64 s29.1))], box := [(2, [.nilS, .nilS]), (3, [.vec 400120, .d (.slice (rowsF api_RefEvent_row s29.2.2.2.1))]), (7, [.d (.int .i64 s29.2.2.2.2.1)]), (1000000, [.d (.slice (rowsF (iRow .i64) s29.2.1)), .d (.int .i64 s29.2.2.1)])], vec := [(33, ⟨3, 1, rowsF (iRow .i64) s29.2.2.2.2.2.1⟩), (400120, ⟨49, 8, rowsF api_Object_row s29.2.2.2.2.2.2⟩)] } : St)) hI1 (Wk.trans (wk_nilb 3 1 (by simp; rfl) (by simp)) (wk (by simp [weak_iff]))) fun G5 s29 o5 h5 hg5 he5 => ?_)
   unfold make_Repository_l0 at h5
   refine tr_seq ?_
   refine kr [0, 2, 3, 4, 5, 6, 8, 9, 21] (by simp; rfl) ?_
   refine tr_cond (b := (decide (0 < s29.1))) (by simp) (fun c105 => ?_) (fun c105 => ?_)
   · rw [if_pos c105] at h5
     refine tr_skip ?_
     refine tr_seq ?_
     refine tr_block ?_
     refine kc1 ?_
     refine ko [0, 2, 3, 5, 6, 8, 9, 24, 25, 26, 27] 4 (by simp; rfl) ?_
     replace h5 := bnd h5; obtain ⟨y30, hy30, h5⟩ := h5
     refine kcall [0, 2, 3, 5, 6, 8, 9, 24, 25, 26, 28] [1000000] (make_Tape_Next_ok hy30) rfl rfl rfl Tryz.call8 (by simp) (by simp; rfl) ?_
     replace h5 := bnd h5; obtain ⟨y31, hy31, h5⟩ := h5
     refine kcall [0, 2, 3, 5, 6, 8, 9, 24, 25, 29] [1000000] (make_Bytes_ok hy31) rfl rfl rfl Tryz.call23 (by simp) (by simp; rfl) ?_
     refine ko [0, 2, 3, 5, 6, 8, 9, 24, 25, 30] 1 (by simp; rfl) ?_
     replace h5 := bnd h5; obtain ⟨y32, hy32, h5⟩ := h5
     refine kcallV [0, 2, 3, 5, 6, 8, 9, 24, 31] [7, 3] [400120] [400120] (make_Repository_1_cbbo0_ok hy32) rfl rfl rfl Tryz.call21 (by simp) (by simp; rfl) ?_
     replace h5 := bnd h5; obtain ⟨_, p408, h5⟩ := h5
     replace p408 := ck_some p408
     have p408' := p408; try simp at p408'
     refine ko [0, 2, 3, 4, 5, 6, 8, 9] 3 (by simp [p408, p408']; rfl) ?_
     refine tops_nil ?_
     refine lr (by simp; rfl) ?_
     exact ⟨_, hg5 _ (Option.some.inj h5), wk (by simp [weak_iff])⟩
   · rw [if_neg (by rw [c105]; decide)] at h5
     refine tr_exit ?_
     exact ⟨_, he5 _ (Option.some.inj h5), wk (by simp [weak_iff])⟩
set_option maxHeartbeats 1000000 in
theorem object_Number_ok {a0 : Int} {r : Bool} (h0 : object_Number a0 = some r) : FnOK Tryz.prog 77 [] [.d (.int .i64 a0)] (.d (.bool r)) [] := by
 unfold object_Number at h0
 refine fn_ok (nt := 9) (rs := [.tmp 2]) Tryz.func77 rfl Tryz.ntmps77 rfl (by simp) (by decide) rfl fun K => ?_
 refine kr [0] (by simp; rfl) ?_
 replace h0 := bnd h0; obtain ⟨v1, hvv1, h0⟩ := h0
 refine sjv (fun v1_ : Bool => ({ nt := 9, env := [(2, .d (.bool v1_))], box := [], vec := [] } : St)) (fun v1_ => v1 = v1_) (fun v1_ e => ?_) ?_
 · subst e
   cases h0
   exact tr_ret ⟨[], by simp, rfl, by simp⟩
 · refine kc1 ?_
   refine ko [0, 5] 3 (by simp; rfl) ?_
   refine tops_split 5 (decide (1 ≤ a0)) (by simp) (fun c3 => ?_) (fun c3 => ?_)
   · rw [c3] at hvv1
     refine ko [2] 4 (by simp; rfl) ?_
     refine tops_nil ?_
     cases hvv1
     exact ⟨_, rfl, wk (by simp [weak_iff])⟩
   · rw [c3] at hvv1
     refine ko [2] 4 (by simp; rfl) ?_
     refine tops_nil ?_
     cases hvv1
     exact ⟨_, rfl, wk (by simp [weak_iff])⟩
set_option maxHeartbeats 1000000 in
theorem object_Name_ok {a0 : ByteArray} {r : Bool} (h0 : object_Name a0 = some r) : FnOK Tryz.prog 80 [] [.d (.str a0)] (.d (.bool r)) [] := by
 unfold object_Name at h0
 refine fn_ok (nt := 31) (rs := [.tmp 2]) Tryz.func80 rfl Tryz.ntmps80 rfl (by simp) (by decide) rfl fun K => ?_
 refine kr [0] (by simp; rfl) ?_
 refine tr_seq ?_
 refine kc ?_
 refine ko [0, 5] 1 (by simp; rfl) ?_
 refine kstr [0, 6] rfl rfl Tryz.underlying9 Tryz.underlying47 Tryz.underlying5 (by simp; rfl) (by simp; rfl) ?_
 refine ko [0, 6, 7, 8] 2 (by simp; rfl) ?_
 refine tops_nil ?_
 replace h0 := bnd h0; obtain ⟨e1, hI1, h0⟩ := h0
 refine tjv (fun v1 : Unit => ({ nt := 31, env := [(0, .d (.str a0))], box := [], vec := [] } : St)) (fun v1 => .inl v1 = e1) (fun v1 hI1e _ W1 => ?_) ?_
 · subst hI1e
   dsimp only at h0
   refine tr_wk W1 ?_
   replace h0 := bnd h0; obtain ⟨v2, hvv2, h0⟩ := h0
   refine sjv (fun v2_ : Bool => ({ nt := 31, env := [(2, .d (.bool v2_))], box := [], vec := [] } : St)) (fun v2_ => v2 = v2_) (fun v2_ e => ?_) ?_
   · subst e
     cases h0
     exact tr_ret ⟨[], by simp, rfl, by simp⟩
   · refine kc1 ?_
     refine ko [0, 26] 4 (by simp; rfl) ?_
     refine tops_split 26 (decide (1 ≤ ((a0).size : Int))) (by simp) (fun c11 => ?_) (fun c11 => ?_)
     · rw [c11] at hvv2
       refine ko [2] 5 (by simp; rfl) ?_
       refine tops_nil ?_
       cases hvv2
       exact ⟨_, rfl, wk (by simp [weak_iff])⟩
     · rw [c11] at hvv2
       refine kskip 3 [] (by kernel_rfl) ?_
       refine ko [2] 2 (by simp; rfl) ?_
       refine tops_nil ?_
       cases hvv2
       exact ⟨_, rfl, wk (by simp [weak_iff])⟩
 · refine tr_block (tr_iter (fun s3 : Int => ({ nt := 31, env := [(0, .d (.str a0)), (6, .d (.slice (rowsF (iRow .u8) (sbytes a0)))), (7, .d (.int .i64 (((sbytes a0)).length : Int))), (8, .d (.int .i64 s3))], box := [], vec := [] } : St)) hI1 (wk (by simp [weak_iff])) fun G1 s3 o1 h1 hg1 he1 => ?_)
   unfold object_Name_l0 at h1
   refine kr [0, 6, 7, 8, 9] (by simp; rfl) ?_
   refine tr_seq ?_
   refine tr_cond (b := (decide (s3 < (((sbytes a0)).length : Int)))) (by simp) (fun c12 => ?_) (fun c12 => ?_)
   · rw [if_pos c12] at h1
     refine tr_skip ?_
     refine tr_seq ?_
     refine tr_block ?_
     replace h1 := bnd h1; obtain ⟨x4, p3, h1⟩ := h1
     replace p3 := idx_some p3
     have p3' := p3; try simp at p3'
     refine kr [0, 4, 6, 7, 8] (by simp [p3, p3']; rfl) ?_
     replace h1 := bnd h1; obtain ⟨v5, hvv5, h1⟩ := h1
     refine sjv (fun v5_ : Bool => ({ nt := 31, env := [(0, .d (.str a0)), (6, .d (.slice (rowsF (iRow .u8) (sbytes a0)))), (7, .d (.int .i64 (((sbytes a0)).length : Int))), (8, .d (.int .i64 s3)), (21, .d (.bool v5_))], box := [], vec := [] } : St)) (fun v5_ => v5 = v5_) (fun v5_ e => ?_) ?_
     · subst e
       refine tr_cond (b := v5) (by simp) (fun c17 => ?_) (fun c17 => ?_)
       · rw [if_pos c17] at h1
         refine kr [2] (by simp; rfl) ?_
         have k1 := he1 _ (Option.some.inj h1)
         subst k1
         dsimp only at h0
         cases h0
         exact tr_ret ⟨[], by simp, rfl, by simp⟩
       · rw [if_neg (by rw [c17]; decide)] at h1
         refine tr_skip ?_
         refine lr (by simp; rfl) ?_
         exact ⟨_, hg1 _ (Option.some.inj h1), wk (by simp [weak_iff])⟩
     · refine kc1 ?_
       refine ko [0, 4, 6, 7, 8, 14] 3 (by simp; rfl) ?_
       refine tops_split 14 (decide (x4 < 33)) (by simp) (fun c18 => ?_) (fun c18 => ?_)
       · rw [c18] at hvv5
         refine ko [0, 6, 7, 8, 15, 16, 19, 20, 21] 7 (by simp; rfl) ?_
         refine tops_nil ?_
         cases hvv5
         exact ⟨_, rfl, wk (by simp [weak_iff])⟩
       · rw [c18] at hvv5
         refine ko [0, 4, 6, 7, 8, 15, 16, 18] 4 (by simp; rfl) ?_
         refine tops_split 18 (decide (126 < x4)) (by simp) (fun c19 => ?_) (fun c19 => ?_)
         · rw [c19] at hvv5
           refine ko [0, 6, 7, 8, 15, 16, 19, 20, 21] 3 (by simp; rfl) ?_
           refine tops_nil ?_
           cases hvv5
           exact ⟨_, rfl, wk (by simp [weak_iff])⟩
         · rw [c19] at hvv5
           refine ko [0, 6, 7, 8, 15, 16, 19, 20, 21] 3 (by simp; rfl) ?_
           refine tops_nil ?_
           cases hvv5
           exact ⟨_, rfl, wk (by simp [weak_iff])⟩
   · rw [if_neg (by rw [c12]; decide)] at h1
     refine tr_exit ?_
     exact ⟨_, he1 _ (Option.some.inj h1), wk (by simp [weak_iff])⟩
set_option maxHeartbeats 1000000 in
theorem object_tree_ok {a0 : api_Object} {r : Bool} (h0 : object_tree a0 = some r) : FnOK Tryz.prog 110 [] [.agg (api_Object_av a0)] (.d (.bool r)) [] := by
 unfold object_tree at h0
 refine fn_ok (nt := 40) (rs := [.tmp 2]) Tryz.func110 rfl Tryz.ntmps110 rfl (by simp) (by decide) rfl fun K => ?_
 refine kr [1] (by simp; rfl) ?_
 refine tr_seq ?_
 refine kr [1, 6, 7, 8] (by simp; rfl) ?_
 replace h0 := bnd h0; obtain ⟨e1, hI1, h0⟩ := h0
 refine tjv (fun v1 : Unit => ({ nt := 40, env := [], box := [], vec := [] } : St)) (fun v1 => .inl v1 = e1) (fun v1 hI1e _ W1 => ?_) ?_
 · subst hI1e
   dsimp only at h0
   refine tr_wk W1 ?_
   refine kr [2] (by simp; rfl) ?_
   cases h0
   exact tr_ret ⟨[], by simp, rfl, by simp⟩
 · refine tr_block (tr_iter (fun s2 : Int => ({ nt := 40, env := [(1, .ptr 1 0), (6, .d (.slice (rowsF api_Item_row a0.Items))), (7, .d (.int .i64 ((a0.Items).length : Int))), (8, .d (.int .i64 s2))], box := [(1, [.d (.int .i64 a0.ID), .d (.int .i64 a0.Kind), .d (.slice (rowsF (iRow .u8) a0.Data)), .d (.slice (rowsF api_Item_row a0.Items)), .d (.int .i64 a0.Tree), .d (.slice (rowsF (iRow .i64) a0.Parents)), .d (.str a0.Author), .d (.int .i64 a0.Time)])], vec := [] } : St)) hI1 (wk (by simp [weak_iff])) fun G1 s2 o1 h1 hg1 he1 => ?_)
   unfold object_tree_l0 at h1
   refine kr [1, 6, 7, 8, 9] (by simp; rfl) ?_
   refine tr_seq ?_
   refine tr_cond (b := (decide (s2 < ((a0.Items).length : Int)))) (by simp) (fun c23 => ?_) (fun c23 => ?_)
   · rw [if_pos c23] at h1
     refine tr_skip ?_
     refine tr_seq ?_
     refine tr_block ?_
     replace h1 := bnd h1; obtain ⟨x3, p9, h1⟩ := h1
     replace p9 := idx_some p9
     have p9' := p9; try simp at p9'
     refine kr [1, 3, 4, 6, 7, 8] (by simp [p9, p9']; rfl) ?_
     replace h1 := bnd h1; obtain ⟨v4, hvv4, h1⟩ := h1
     refine sjv (fun v4_ : Bool => ({ nt := 40, env := [(1, .ptr 1 0), (6, .d (.slice (rowsF api_Item_row a0.Items))), (7, .d (.int .i64 ((a0.Items).length : Int))), (8, .d (.int .i64 s2)), (38, .d (.bool v4_))], box := [(1, [.d (.int .i64 a0.ID), .d (.int .i64 a0.Kind), .d (.slice (rowsF (iRow .u8) a0.Data)), .d (.slice (rowsF api_Item_row a0.Items)), .d (.int .i64 a0.Tree), .d (.slice (rowsF (iRow .i64) a0.Parents)), .d (.str a0.Author), .d (.int .i64 a0.Time)])], vec := [] } : St)) (fun v4_ => v4 = v4_) (fun v4_ e => ?_) ?_
     · subst e
       refine tr_cond (b := v4) (by simp) (fun c42 => ?_) (fun c42 => ?_)
       · rw [if_pos c42] at h1
         refine kr [2] (by simp; rfl) ?_
         have k1 := he1 _ (Option.some.inj h1)
         subst k1
         dsimp only at h0
         cases h0
         exact tr_ret ⟨[], by simp, rfl, by simp⟩
       · rw [if_neg (by rw [c42]; decide)] at h1
         refine tr_skip ?_
         refine lr (by simp; rfl) ?_
         exact ⟨_, hg1 _ (Option.some.inj h1), wk (by simp [weak_iff])⟩
     · refine kd1 [[], [0], [1], [2], [3], [4], [4, 5], [4, 6], [4, 7], [4, 8], [9], [10], [10, 11], [10, 12], [13], [13, 14], [13], [13, 16], [13, 15, 17], [13, 18], [13, 19], [13], [13, 21], [13, 20, 22], [10, 13, 23], [10, 24]] [] [] none [] 26 fol (by decide +kernel) (by simp) ?_
       refine dr_go 0 2 rfl (by simp (maxSteps := 1000000); rfl) ?_
       replace hvv4 := bnd hvv4; obtain ⟨y5, hy5, hvv4⟩ := hvv4
       refine dr_call 2 [] (object_Name_ok hy5) rfl rfl rfl rfl rfl Tryz.call80 (by simp) ?_
       refine dr_go 3 2 rfl (by simp (maxSteps := 1000000); rfl) ?_
       refine dr_split 4 17 (!y5) (by simp) (fun c49 => ?_) (fun c49 => ?_)
       · rw [if_pos c49] at hvv4
         refine dr_skip 5 40 [some 18, some 19, some 20, some 21] rfl rfl (by decide) (by kernel_rfl) (by simp only [skEf, List.map_cons, List.map_nil, List.cons_append, List.nil_append]; rfl) ?_
         refine dr_go 9 2 rfl (by simp (maxSteps := 1000000); rfl) ?_
         refine dr_skip 11 40 [some 24, some 25, some 26, some 27, some 28, some 29, some 30, some 31, some 32, some 33, some 34, some 35, some 36, some 37] rfl rfl (by decide) (by kernel_rfl) (by simp only [skEf, List.map_cons, List.map_nil, List.cons_append, List.nil_append]; rfl) ?_
         refine dr_go 25 1 rfl (by simp (maxSteps := 1000000); rfl) ?_
         refine dr_end rfl (tops_nil ?_)
         cases hvv4
         exact ⟨_, rfl, wk (by simp [weak_iff])⟩
       · rw [if_neg (by rw [c49]; decide)] at hvv4
         refine dr_go 5 2 rfl (by simp (maxSteps := 1000000); rfl) ?_
         replace hvv4 := bnd hvv4; obtain ⟨y6, hy6, hvv4⟩ := hvv4
         refine dr_call 7 [] (object_Number_ok hy6) rfl rfl rfl rfl rfl Tryz.call77 (by simp) ?_
         refine dr_go 8 2 rfl (by simp (maxSteps := 1000000); rfl) ?_
         refine dr_go 10 1 rfl (by simp (maxSteps := 1000000); rfl) ?_
         refine dr_split 10 23 (!y6) (by simp) (fun c50 => ?_) (fun c50 => ?_)
         · rw [if_pos c50] at hvv4
           refine dr_skip 11 40 [some 24, some 25, some 26, some 27, some 28, some 29, some 30, some 31, some 32, some 33, some 34, some 35, some 36, some 37] rfl rfl (by decide) (by kernel_rfl) (by simp only [skEf, List.map_cons, List.map_nil, List.cons_append, List.nil_append]; rfl) ?_
           refine dr_go 25 1 rfl (by simp (maxSteps := 1000000); rfl) ?_
           refine dr_end rfl (tops_nil ?_)
           cases hvv4
           exact ⟨_, rfl, wk (by simp [weak_iff])⟩
         · rw [if_neg (by rw [c50]; decide)] at hvv4
           refine dr_go 11 2 rfl (by simp (maxSteps := 1000000); rfl) ?_
           refine dr_go 13 1 rfl (by simp (maxSteps := 1000000); rfl) ?_
           refine dr_split 13 26 (decide (0 < s2)) (by simp) (fun c51 => ?_) (fun c51 => ?_)
           · rw [if_pos c51] at hvv4
             replace hvv4 := bnd hvv4; obtain ⟨x7, p18, hvv4⟩ := hvv4
             replace p18 := idx_some p18
             have p18' := p18; try simp at p18'
             refine dr_go 14 2 rfl (by simp (maxSteps := 1000000) [p18, p18']; rfl) ?_
             refine dr_go 16 2 rfl (by simp (maxSteps := 1000000) [p18, p18']; rfl) ?_
             refine dr_go 18 2 rfl (by simp (maxSteps := 1000000) [p18, p18']; rfl) ?_
             refine dr_go 20 2 rfl (by simp (maxSteps := 1000000) [p18, p18']; rfl) ?_
             refine dr_go 22 2 rfl (by simp (maxSteps := 1000000) [p18, p18']; rfl) ?_
             refine dr_go 24 2 rfl (by simp (maxSteps := 1000000) [p18, p18']; rfl) ?_
             refine dr_end rfl (tops_nil ?_)
             cases hvv4
             exact ⟨_, rfl, wk (by simp [weak_iff])⟩
           · rw [if_neg (by rw [c51]; decide)] at hvv4
             refine dr_skip 14 40 [some 27, some 28, some 29, some 30, some 31, some 32, some 33, some 34, some 35, some 36] rfl rfl (by decide) (by kernel_rfl) (by simp only [skEf, List.map_cons, List.map_nil, List.cons_append, List.nil_append]; rfl) ?_
             refine dr_go 24 2 rfl (by simp (maxSteps := 1000000); rfl) ?_
             refine dr_end rfl (tops_nil ?_)
             cases hvv4
             exact ⟨_, rfl, wk (by simp [weak_iff])⟩
   · rw [if_neg (by rw [c23]; decide)] at h1
     refine tr_exit ?_
     exact ⟨_, he1 _ (Option.some.inj h1), wk (by simp [weak_iff])⟩
set_option maxHeartbeats 1000000 in
theorem slices_Index_int_ok {a0 : List Int} {a1 : Int} {r : Int} (h0 : slices_Index_int a0 a1 = some r) : FnOK Tryz.prog 147 [] [.d (.slice (rowsF (iRow .i64) a0)), .d (.int .i64 a1)] (.d (.int .i64 r)) [] := by
 unfold slices_Index_int at h0
 refine fn_ok (nt := 19) (rs := [.tmp 4]) Tryz.func147 rfl Tryz.ntmps147 rfl (by simp) (by decide) rfl fun K => ?_
 refine kr [0, 1] (by simp; rfl) ?_
 refine tr_seq ?_
 refine kr [0, 1, 7, 8] (by simp; rfl) ?_
 replace h0 := bnd h0; obtain ⟨e1, hI1, h0⟩ := h0
 refine tjv (fun v1 : Unit => ({ nt := 19, env := [], box := [], vec := [] } : St)) (fun v1 => .inl v1 = e1) (fun v1 hI1e _ W1 => ?_) ?_
 · subst hI1e
   dsimp only at h0
   refine tr_wk W1 ?_
   refine kr [4] (by simp; rfl) ?_
   cases h0
   exact tr_ret ⟨[], by simp, rfl, by simp⟩
 · refine tr_block (tr_iter (fun s2 : Int => ({ nt := 19, env := [(0, .d (.slice (rowsF (iRow .i64) a0))), (1, .d (.int .i64 a1)), (7, .d (.int .i64 ((a0).length : Int))), (8, .d (.int .i64 s2))], box := [], vec := [] } : St)) hI1 (wk (by simp [weak_iff])) fun G1 s2 o1 h1 hg1 he1 => ?_)
   unfold slices_Index_int_l0 at h1
   refine kr [0, 1, 7, 8, 9] (by simp; rfl) ?_
   refine tr_seq ?_
   refine tr_cond (b := (decide (s2 < ((a0).length : Int)))) (by simp) (fun c5 => ?_) (fun c5 => ?_)
   · rw [if_pos c5] at h1
     refine tr_skip ?_
     refine tr_seq ?_
     refine tr_block ?_
     refine kr [0, 1, 5, 7, 8] (by simp; rfl) ?_
     replace h1 := bnd h1; obtain ⟨x3, p3, h1⟩ := h1
     replace p3 := idx_some p3
     have p3' := p3; try simp at p3'
     refine kr [0, 1, 5, 7, 8, 16] (by simp [p3, p3']; rfl) ?_
     refine tr_cond (b := (a1 == x3)) (by simp) (fun c6 => ?_) (fun c6 => ?_)
     · rw [if_pos c6] at h1
       refine kr [4] (by simp; rfl) ?_
       have k1 := he1 _ (Option.some.inj h1)
       subst k1
       dsimp only at h0
       cases h0
       exact tr_ret ⟨[], by simp, rfl, by simp⟩
     · rw [if_neg (by rw [c6]; decide)] at h1
       refine tr_skip ?_
       refine lr (by simp; rfl) ?_
       exact ⟨_, hg1 _ (Option.some.inj h1), wk (by simp [weak_iff])⟩
   · rw [if_neg (by rw [c5]; decide)] at h1
     refine tr_exit ?_
     exact ⟨_, he1 _ (Option.some.inj h1), wk (by simp [weak_iff])⟩
set_option maxHeartbeats 1000000 in
theorem slices_Contains_int_ok {a0 : List Int} {a1 : Int} {r : Bool} (h0 : slices_Contains_int a0 a1 = some r) : FnOK Tryz.prog 128 [] [.d (.slice (rowsF (iRow .i64) a0)), .d (.int .i64 a1)] (.d (.bool r)) [] := by
 unfold slices_Contains_int at h0
 refine fn_ok (nt := 9) (rs := [.tmp 4]) Tryz.func128 rfl Tryz.ntmps128 rfl (by simp) (by decide) rfl fun K => ?_
 refine kr [0, 1] (by simp; rfl) ?_
 refine kc ?_
 refine ko [5, 6] 2 (by simp; rfl) ?_
 replace h0 := bnd h0; obtain ⟨y1, hy1, h0⟩ := h0
 refine kcall [7] [] (slices_Index_int_ok hy1) rfl rfl rfl Tryz.call147 (by simp) (by simp; rfl) ?_
 refine ko [4] 2 (by simp; rfl) ?_
 refine tops_nil ?_
 cases h0
 exact tr_ret ⟨[], by simp, rfl, by simp⟩
set_option maxHeartbeats 1000000 in
theorem object_commit_ok {a0 : api_Object} {r : Bool} (h0 : object_commit a0 = some r) : FnOK Tryz.prog 111 [] [.agg (api_Object_av a0)] (.d (.bool r)) [] := by
 unfold object_commit at h0
 refine fn_ok (nt := 43) (rs := [.tmp 2]) Tryz.func111 rfl Tryz.ntmps111 rfl (by simp) (by decide) rfl fun K => ?_
 refine kr [1] (by simp; rfl) ?_
 refine tr_seq ?_
 refine kr [1, 6, 7, 8] (by simp; rfl) ?_
 replace h0 := bnd h0; obtain ⟨e1, hI1, h0⟩ := h0
 refine tjv (fun v1 : Unit => ({ nt := 43, env := [(1, .ptr 1 0)], box := [(1, [.d (.int .i64 a0.ID), .d (.int .i64 a0.Kind), .d (.slice (rowsF (iRow .u8) a0.Data)), .d (.slice (rowsF api_Item_row a0.Items)), .d (.int .i64 a0.Tree), .d (.slice (rowsF (iRow .i64) a0.Parents)), .d (.str a0.Author), .d (.int .i64 a0.Time)])], vec := [] } : St)) (fun v1 => .inl v1 = e1) (fun v1 hI1e _ W1 => ?_) ?_
 · subst hI1e
   dsimp only at h0
   refine tr_wk W1 ?_
   replace h0 := bnd h0; obtain ⟨v2, hvv2, h0⟩ := h0
   refine sjv (fun v2_ : Bool => ({ nt := 43, env := [(2, .d (.bool v2_))], box := [], vec := [] } : St)) (fun v2_ => v2 = v2_) (fun v2_ e => ?_) ?_
   · subst e
     cases h0
     exact tr_ret ⟨[], by simp, rfl, by simp⟩
   · refine kc1 ?_
     refine ko [1, 26] 2 (by simp; rfl) ?_
     replace hvv2 := bnd hvv2; obtain ⟨y3, hy3, hvv2⟩ := hvv2
     refine kcall [1, 27] [] (object_Number_ok hy3) rfl rfl rfl Tryz.call77 (by simp) (by simp; rfl) ?_
     refine ko [1, 28] 1 (by simp; rfl) ?_
     refine tops_split 28 y3 (by simp) (fun c13 => ?_) (fun c13 => ?_)
     · rw [if_pos c13] at hvv2
       refine ko [1, 28, 30] 2 (by simp; rfl) ?_
       replace hvv2 := bnd hvv2; obtain ⟨y4, hy4, hvv2⟩ := hvv2
       refine kcall [1, 28, 31] [] (object_Name_ok hy4) rfl rfl rfl Tryz.call80 (by simp) (by simp; rfl) ?_
       refine ko [1, 33] 2 (by simp; rfl) ?_
       refine tops_split 33 y4 (by simp) (fun c14 => ?_) (fun c14 => ?_)
       · rw [if_pos c14] at hvv2
         refine ko [1, 38] 5 (by simp; rfl) ?_
         refine tops_split 38 (decide (0 ≤ a0.Time)) (by simp) (fun c15 => ?_) (fun c15 => ?_)
         · rw [if_pos c15] at hvv2
           refine ko [2] 5 (by simp; rfl) ?_
           refine tops_nil ?_
           cases hvv2
           exact ⟨_, rfl, wk (by simp [weak_iff])⟩
         · rw [if_neg (by rw [c15]; decide)] at hvv2
           refine kskip 3 [] (by kernel_rfl) ?_
           refine ko [2] 2 (by simp; rfl) ?_
           refine tops_nil ?_
           cases hvv2
           exact ⟨_, rfl, wk (by simp [weak_iff])⟩
       · rw [if_neg (by rw [c14]; decide)] at hvv2
         refine kskip 3 [] (by kernel_rfl) ?_
         refine ko [1, 38] 2 (by simp; rfl) ?_
         refine kskip 3 [] (by kernel_rfl) ?_
         refine ko [2] 2 (by simp; rfl) ?_
         refine tops_nil ?_
         cases hvv2
         exact ⟨_, rfl, wk (by simp [weak_iff])⟩
     · rw [if_neg (by rw [c13]; decide)] at hvv2
       refine kskip 3 [] (by kernel_rfl) ?_
       refine ko [1, 33] 2 (by simp; rfl) ?_
       refine kskip 3 [] (by kernel_rfl) ?_
       refine ko [1, 38] 2 (by simp; rfl) ?_
       refine kskip 3 [] (by kernel_rfl) ?_
       refine ko [2] 2 (by simp; rfl) ?_
       refine tops_nil ?_
       cases hvv2
       exact ⟨_, rfl, wk (by simp [weak_iff])⟩
 · refine tr_block (tr_iter (fun s5 : Int => ({ nt := 43, env := [(1, .ptr 1 0), (6, .d (.slice (rowsF (iRow .i64) a0.Parents))), (7, .d (.int .i64 ((a0.Parents).length : Int))), (8, .d (.int .i64 s5))], box := [(1, [.d (.int .i64 a0.ID), .d (.int .i64 a0.Kind), .d (.slice (rowsF (iRow .u8) a0.Data)), .d (.slice (rowsF api_Item_row a0.Items)), .d (.int .i64 a0.Tree), .d (.slice (rowsF (iRow .i64) a0.Parents)), .d (.str a0.Author), .d (.int .i64 a0.Time)])], vec := [] } : St)) hI1 (wk (by simp [weak_iff])) fun G1 s5 o1 h1 hg1 he1 => ?_)
   unfold object_commit_l0 at h1
   refine kr [1, 6, 7, 8, 9] (by simp; rfl) ?_
   refine tr_seq ?_
   refine tr_cond (b := (decide (s5 < ((a0.Parents).length : Int)))) (by simp) (fun c16 => ?_) (fun c16 => ?_)
   · rw [if_pos c16] at h1
     refine tr_skip ?_
     refine tr_seq ?_
     refine tr_block ?_
     replace h1 := bnd h1; obtain ⟨x6, p5, h1⟩ := h1
     replace p5 := idx_some p5
     have p5' := p5; try simp at p5'
     refine kr [1, 3, 4, 6, 7, 8] (by simp [p5, p5']; rfl) ?_
     replace h1 := bnd h1; obtain ⟨v7, hvv7, h1⟩ := h1
     refine sjv (fun v7_ : Bool => ({ nt := 43, env := [(1, .ptr 1 0), (6, .d (.slice (rowsF (iRow .i64) a0.Parents))), (7, .d (.int .i64 ((a0.Parents).length : Int))), (8, .d (.int .i64 s5)), (23, .d (.bool v7_))], box := [(1, [.d (.int .i64 a0.ID), .d (.int .i64 a0.Kind), .d (.slice (rowsF (iRow .u8) a0.Data)), .d (.slice (rowsF api_Item_row a0.Items)), .d (.int .i64 a0.Tree), .d (.slice (rowsF (iRow .i64) a0.Parents)), .d (.str a0.Author), .d (.int .i64 a0.Time)])], vec := [] } : St)) (fun v7_ => v7 = v7_) (fun v7_ e => ?_) ?_
     · subst e
       refine tr_cond (b := v7) (by simp) (fun c19 => ?_) (fun c19 => ?_)
       · rw [if_pos c19] at h1
         refine kr [2] (by simp; rfl) ?_
         have k1 := he1 _ (Option.some.inj h1)
         subst k1
         dsimp only at h0
         cases h0
         exact tr_ret ⟨[], by simp, rfl, by simp⟩
       · rw [if_neg (by rw [c19]; decide)] at h1
         refine tr_skip ?_
         refine lr (by simp; rfl) ?_
         exact ⟨_, hg1 _ (Option.some.inj h1), wk (by simp [weak_iff])⟩
     · refine kc1 ?_
       refine ko [1, 3, 4, 6, 7, 8, 13] 1 (by simp; rfl) ?_
       replace hvv7 := bnd hvv7; obtain ⟨y8, hy8, hvv7⟩ := hvv7
       refine kcall [1, 3, 4, 6, 7, 8, 14] [] (object_Number_ok hy8) rfl rfl rfl Tryz.call77 (by simp) (by simp; rfl) ?_
       refine ko [1, 3, 4, 6, 7, 8, 16] 2 (by simp; rfl) ?_
       refine tops_split 16 (!y8) (by simp) (fun c20 => ?_) (fun c20 => ?_)
       · rw [if_pos c20] at hvv7
         refine kskip 6 [] (by kernel_rfl) ?_
         refine ko [1, 6, 7, 8, 23] 1 (by simp; rfl) ?_
         refine tops_nil ?_
         cases hvv7
         exact ⟨_, rfl, wk (by simp [weak_iff])⟩
       · rw [if_neg (by rw [c20]; decide)] at hvv7
         replace hvv7 := bnd hvv7; obtain ⟨_, p8, hvv7⟩ := hvv7
         replace p8 := ck_some p8
         have p8' := p8; try simp at p8'
         refine ko [1, 6, 7, 8, 16, 17, 18, 19, 20, 21] 5 (by simp [p8, p8']; rfl) ?_
         replace hvv7 := bnd hvv7; obtain ⟨y9, hy9, hvv7⟩ := hvv7
         refine kcall [1, 6, 7, 8, 16, 17, 18, 19, 20, 21, 22] [] (slices_Contains_int_ok hy9) rfl rfl rfl Tryz.call128 (by simp) (by simp; rfl) ?_
         refine ko [1, 6, 7, 8, 17, 18, 19, 20, 21, 22, 23] 1 (by simp; rfl) ?_
         refine tops_nil ?_
         cases hvv7
         exact ⟨_, rfl, wk (by simp [weak_iff])⟩
   · rw [if_neg (by rw [c16]; decide)] at h1
     refine tr_exit ?_
     exact ⟨_, he1 _ (Option.some.inj h1), wk (by simp [weak_iff])⟩
set_option maxHeartbeats 1000000 in
theorem object_right_ok {a0 : api_Object} {r : Bool} (h0 : object_right a0 = some r) : FnOK Tryz.prog 78 [] [.agg (api_Object_av a0)] (.d (.bool r)) [] := by
 unfold object_right at h0
 refine fn_ok (nt := 65) (rs := [.tmp 2]) Tryz.func78 rfl Tryz.ntmps78 rfl (by simp) (by decide) rfl fun K => ?_
 refine kr [1] (by simp; rfl) ?_
 replace h0 := bnd h0; obtain ⟨v1, hvv1, h0⟩ := h0
 refine sjv (fun v1_ : Bool => ({ nt := 65, env := [(1, .ptr 1 0), (3, .d (.bool v1_))], box := [(1, [.d (.int .i64 a0.ID), .d (.int .i64 a0.Kind), .d (.slice (rowsF (iRow .u8) a0.Data)), .d (.slice (rowsF api_Item_row a0.Items)), .d (.int .i64 a0.Tree), .d (.slice (rowsF (iRow .i64) a0.Parents)), .d (.str a0.Author), .d (.int .i64 a0.Time)])], vec := [] } : St)) (fun v1_ => v1 = v1_) (fun v1_ e => ?_) ?_
 · subst e
   refine tr_seq ?_
   refine kr [1, 3, 24] (by simp; rfl) ?_
   refine tr_block ?_
   refine kr [1, 3, 24, 25] (by simp; rfl) ?_
   refine tr_cond (b := (a0.Kind == 1)) (by simp) (fun c7 => ?_) (fun c7 => ?_)
   · rw [if_pos c7] at h0
     replace h0 := bnd h0; obtain ⟨v2, hvv2, h0⟩ := h0
     refine sjv (fun v2_ : Bool => ({ nt := 65, env := [(2, .d (.bool v2_))], box := [], vec := [] } : St)) (fun v2_ => v2 = v2_) (fun v2_ e => ?_) ?_
     · subst e
       cases h0
       exact tr_ret ⟨[], by simp, rfl, by simp⟩
     · refine kc1 ?_
       refine ko [3, 31] 5 (by simp; rfl) ?_
       refine tops_split 31 (((a0.Items).length : Int) == 0) (by simp) (fun c10 => ?_) (fun c10 => ?_)
       · rw [c10] at hvv2
         refine ko [2] 4 (by simp; rfl) ?_
         refine tops_nil ?_
         cases hvv2
         exact ⟨_, rfl, wk (by simp [weak_iff])⟩
       · rw [c10] at hvv2
         refine ko [2] 4 (by simp; rfl) ?_
         refine tops_nil ?_
         cases hvv2
         exact ⟨_, rfl, wk (by simp [weak_iff])⟩
   · rw [if_neg (by rw [c7]; decide)] at h0
     refine kr [1, 3, 24, 35] (by simp; rfl) ?_
     refine tr_cond (b := (a0.Kind == 2)) (by simp) (fun c11 => ?_) (fun c11 => ?_)
     · rw [if_pos c11] at h0
       replace h0 := bnd h0; obtain ⟨v3, hvv3, h0⟩ := h0
       refine sjv (fun v3_ : Bool => ({ nt := 65, env := [(2, .d (.bool v3_))], box := [], vec := [] } : St)) (fun v3_ => v3 = v3_) (fun v3_ e => ?_) ?_
       · subst e
         cases h0
         exact tr_ret ⟨[], by simp, rfl, by simp⟩
       · refine kc1 ?_
         refine ko [1, 3, 41] 5 (by simp; rfl) ?_
         refine tops_split 41 (((a0.Data).length : Int) == 0) (by simp) (fun c16 => ?_) (fun c16 => ?_)
         · rw [if_pos c16] at hvv3
           refine ko [1, 45] 4 (by simp; rfl) ?_
           refine tops_split 45 (!v1) (by simp) (fun c17 => ?_) (fun c17 => ?_)
           · rw [if_pos c17] at hvv3
             refine ko [45, 46] 1 (by simp; rfl) ?_
             replace hvv3 := bnd hvv3; obtain ⟨y4, hy4, hvv3⟩ := hvv3
             refine kcall [45, 47] [] (object_tree_ok hy4) rfl rfl rfl Tryz.call110 (by simp) (by simp; rfl) ?_
             refine ko [2] 2 (by simp; rfl) ?_
             refine tops_nil ?_
             cases hvv3
             exact ⟨_, rfl, wk (by simp [weak_iff])⟩
           · rw [if_neg (by rw [c17]; decide)] at hvv3
             refine ko [2] 4 (by simp; rfl) ?_
             refine tops_nil ?_
             cases hvv3
             exact ⟨_, rfl, wk (by simp [weak_iff])⟩
         · rw [if_neg (by rw [c16]; decide)] at hvv3
           refine ko [2] 8 (by simp; rfl) ?_
           refine tops_nil ?_
           cases hvv3
           exact ⟨_, rfl, wk (by simp [weak_iff])⟩
     · rw [if_neg (by rw [c11]; decide)] at h0
       refine kr [1, 49] (by simp; rfl) ?_
       refine tr_cond (b := (a0.Kind == 3)) (by simp) (fun c18 => ?_) (fun c18 => ?_)
       · rw [if_pos c18] at h0
         replace h0 := bnd h0; obtain ⟨v5, hvv5, h0⟩ := h0
         refine sjv (fun v5_ : Bool => ({ nt := 65, env := [(2, .d (.bool v5_))], box := [], vec := [] } : St)) (fun v5_ => v5 = v5_) (fun v5_ e => ?_) ?_
         · subst e
           cases h0
           exact tr_ret ⟨[], by simp, rfl, by simp⟩
         · refine kc1 ?_
           refine ko [1, 55] 5 (by simp; rfl) ?_
           refine tops_split 55 (((a0.Data).length : Int) == 0) (by simp) (fun c23 => ?_) (fun c23 => ?_)
           · rw [if_pos c23] at hvv5
             refine ko [1, 61] 6 (by simp; rfl) ?_
             refine tops_split 61 (((a0.Items).length : Int) == 0) (by simp) (fun c24 => ?_) (fun c24 => ?_)
             · rw [if_pos c24] at hvv5
               refine ko [61, 62] 1 (by simp; rfl) ?_
               replace hvv5 := bnd hvv5; obtain ⟨y6, hy6, hvv5⟩ := hvv5
               refine kcall [61, 63] [] (object_commit_ok hy6) rfl rfl rfl Tryz.call111 (by simp) (by simp; rfl) ?_
               refine ko [2] 2 (by simp; rfl) ?_
               refine tops_nil ?_
               cases hvv5
               exact ⟨_, rfl, wk (by simp [weak_iff])⟩
             · rw [if_neg (by rw [c24]; decide)] at hvv5
               refine ko [2] 4 (by simp; rfl) ?_
               refine tops_nil ?_
               cases hvv5
               exact ⟨_, rfl, wk (by simp [weak_iff])⟩
           · rw [if_neg (by rw [c23]; decide)] at hvv5
             refine kskip 4 [] (by kernel_rfl) ?_
             refine ko [2] 6 (by simp; rfl) ?_
             refine tops_nil ?_
             cases hvv5
             exact ⟨_, rfl, wk (by simp [weak_iff])⟩
       · rw [if_neg (by rw [c18]; decide)] at h0
         refine tr_skip ?_
         refine kr [2] (by simp; rfl) ?_
         cases h0
         exact tr_ret ⟨[], by simp, rfl, by simp⟩
 · refine kc1 ?_
   refine ko [1, 7] 4 (by simp; rfl) ?_
   refine tops_split 7 (a0.Tree != 0) (by simp) (fun c25 => ?_) (fun c25 => ?_)
   · rw [c25] at hvv1
     refine kskip 4 [] (by kernel_rfl) ?_
     refine ko [1, 13] 2 (by simp; rfl) ?_
     refine kskip 3 [] (by kernel_rfl) ?_
     refine ko [1, 18] 2 (by simp; rfl) ?_
     refine kskip 3 [] (by kernel_rfl) ?_
     refine ko [1, 3] 2 (by simp; rfl) ?_
     refine tops_nil ?_
     cases hvv1
     exact ⟨_, rfl, wk (by simp [weak_iff])⟩
   · rw [c25] at hvv1
     refine ko [1, 13] 6 (by simp; rfl) ?_
     refine tops_split 13 (decide (0 < ((a0.Parents).length : Int))) (by simp) (fun c26 => ?_) (fun c26 => ?_)
     · rw [c26] at hvv1
       refine kskip 3 [] (by kernel_rfl) ?_
       refine ko [1, 18] 2 (by simp; rfl) ?_
       refine kskip 3 [] (by kernel_rfl) ?_
       refine ko [1, 3] 2 (by simp; rfl) ?_
       refine tops_nil ?_
       cases hvv1
       exact ⟨_, rfl, wk (by simp [weak_iff])⟩
     · rw [c26] at hvv1
       refine ko [1, 18] 5 (by simp; rfl) ?_
       refine tops_split 18 (!((a0.Author).toList == ((⟨#[]⟩ : ByteArray)).toList)) (by simp) (fun c27 => ?_) (fun c27 => ?_)
       · rw [c27] at hvv1
         refine kskip 3 [] (by kernel_rfl) ?_
         refine ko [1, 3] 2 (by simp; rfl) ?_
         refine tops_nil ?_
         cases hvv1
         exact ⟨_, rfl, wk (by simp [weak_iff])⟩
       · rw [c27] at hvv1
         refine ko [1, 3] 5 (by simp; rfl) ?_
         refine tops_nil ?_
         cases hvv1
         exact ⟨_, rfl, wk (by simp [weak_iff])⟩
set_option maxHeartbeats 1000000 in
theorem object_Valid_ok {a0 : api_Object} {r : Int} (h0 : object_Valid a0 = some r) : FnOK Tryz.prog 42 [] [.agg (api_Object_av a0)] (.d (.int .i64 r)) [] := by
 unfold object_Valid at h0
 refine fn_ok (nt := 29) (rs := [.tmp 2]) Tryz.func42 rfl Tryz.ntmps42 rfl (by simp) (by decide) rfl fun K => ?_
 refine kr [1] (by simp; rfl) ?_
 refine tr_seq ?_
 refine tr_block ?_
 refine kc ?_
 refine ko [1, 5] 2 (by simp; rfl) ?_
 replace h0 := bnd h0; obtain ⟨y1, hy1, h0⟩ := h0
 refine kcall [1, 6] [] (object_Number_ok hy1) rfl rfl rfl Tryz.call77 (by simp) (by simp; rfl) ?_
 refine ko [1, 3] 2 (by simp; rfl) ?_
 refine tops_nil ?_
 refine tr_cond (b := (!y1)) (by simp) (fun c1 => ?_) (fun c1 => ?_)
 · rw [if_pos c1] at h0
   refine kr [2] (by simp; rfl) ?_
   cases h0
   exact tr_ret ⟨[], by simp, rfl, by simp⟩
 · rw [if_neg (by rw [c1]; decide)] at h0
   replace h0 := bnd h0; obtain ⟨v2, hvv2, h0⟩ := h0
   refine sjv (fun v2_ : Bool => ({ nt := 29, env := [(1, .ptr 1 0), (8, .d (.bool v2_))], box := [(1, [.d (.int .i64 a0.ID), .d (.int .i64 a0.Kind), .d (.slice (rowsF (iRow .u8) a0.Data)), .d (.slice (rowsF api_Item_row a0.Items)), .d (.int .i64 a0.Tree), .d (.slice (rowsF (iRow .i64) a0.Parents)), .d (.str a0.Author), .d (.int .i64 a0.Time)])], vec := [] } : St)) (fun v2_ => v2 = v2_) (fun v2_ e => ?_) ?_
   · subst e
     refine tr_cond (b := v2) (by simp) (fun c6 => ?_) (fun c6 => ?_)
     · rw [if_pos c6] at h0
       refine kr [2] (by simp; rfl) ?_
       cases h0
       exact tr_ret ⟨[], by simp, rfl, by simp⟩
     · rw [if_neg (by rw [c6]; decide)] at h0
       refine kc ?_
       refine ko [26] 1 (by simp; rfl) ?_
       replace h0 := bnd h0; obtain ⟨y3, hy3, h0⟩ := h0
       refine kcall [27] [] (object_right_ok hy3) rfl rfl rfl Tryz.call78 (by simp) (by simp; rfl) ?_
       refine ko [25] 2 (by simp; rfl) ?_
       refine tops_nil ?_
       refine tr_cond (b := (!y3)) (by simp) (fun c7 => ?_) (fun c7 => ?_)
       · rw [if_pos c7] at h0
         refine kr [2] (by simp; rfl) ?_
         cases h0
         exact tr_ret ⟨[], by simp, rfl, by simp⟩
       · rw [if_neg (by rw [c7]; decide)] at h0
         refine tr_skip ?_
         refine kr [2] (by simp; rfl) ?_
         cases h0
         exact tr_ret ⟨[], by simp, rfl, by simp⟩
   · refine kc1 ?_
     refine ko [1, 13] 5 (by simp; rfl) ?_
     refine tops_split 13 (decide (65536 < ((a0.Data).length : Int))) (by simp) (fun c8 => ?_) (fun c8 => ?_)
     · rw [c8] at hvv2
       refine kskip 4 [] (by kernel_rfl) ?_
       refine ko [1, 19] 2 (by simp; rfl) ?_
       refine kskip 4 [] (by kernel_rfl) ?_
       refine ko [1, 8] 2 (by simp; rfl) ?_
       refine tops_nil ?_
       cases hvv2
       exact ⟨_, rfl, wk (by simp [weak_iff])⟩
     · rw [c8] at hvv2
       refine ko [1, 19] 6 (by simp; rfl) ?_
       refine tops_split 19 (decide (64 < ((a0.Items).length : Int))) (by simp) (fun c9 => ?_) (fun c9 => ?_)
       · rw [c9] at hvv2
         refine kskip 4 [] (by kernel_rfl) ?_
         refine ko [1, 8] 2 (by simp; rfl) ?_
         refine tops_nil ?_
         cases hvv2
         exact ⟨_, rfl, wk (by simp [weak_iff])⟩
       · rw [c9] at hvv2
         refine ko [1, 8] 6 (by simp; rfl) ?_
         refine tops_nil ?_
         cases hvv2
         exact ⟨_, rfl, wk (by simp [weak_iff])⟩
set_option maxHeartbeats 1000000 in
theorem history_Valid_1_ok {a0 : api_Object} {r : Bool} (h0 : history_Valid_1 a0 = some r) : FnOK Tryz.prog 41 [] [.agg (api_Object_av a0)] (.d (.bool r)) [] := by
 unfold history_Valid_1 at h0
 refine fn_ok (nt := 6) (rs := [.tmp 2]) Tryz.func41 rfl Tryz.ntmps41 rfl (by simp) (by decide) rfl fun K => ?_
 refine kr [1] (by simp; rfl) ?_
 refine kc ?_
 refine ko [3] 1 (by simp; rfl) ?_
 replace h0 := bnd h0; obtain ⟨y1, hy1, h0⟩ := h0
 refine kcall [4] [] (object_Valid_ok hy1) rfl rfl rfl Tryz.call42 (by simp) (by simp; rfl) ?_
 refine ko [2] 2 (by simp; rfl) ?_
 refine tops_nil ?_
 cases h0
 exact tr_ret ⟨[], by simp, rfl, by simp⟩
set_option maxHeartbeats 1000000 in
theorem history_wrong_ok {a0 : api_RefEvent} {r : Bool} (h0 : history_wrong a0 = some r) : FnOK Tryz.prog 44 [] [.agg (api_RefEvent_av a0)] (.d (.bool r)) [] := by
 unfold history_wrong at h0
 refine fn_ok (nt := 27) (rs := [.tmp 2]) Tryz.func44 rfl Tryz.ntmps44 rfl (by simp) (by decide) rfl fun K => ?_
 refine kr [1] (by simp; rfl) ?_
 replace h0 := bnd h0; obtain ⟨v1, hvv1, h0⟩ := h0
 refine sjv (fun v1_ : Bool => ({ nt := 27, env := [(2, .d (.bool v1_))], box := [], vec := [] } : St)) (fun v1_ => v1 = v1_) (fun v1_ e => ?_) ?_
 · subst e
   cases h0
   exact tr_ret ⟨[], by simp, rfl, by simp⟩
 · refine kc1 ?_
   refine ko [1, 6] 4 (by simp; rfl) ?_
   refine tops_split 6 (a0.Kind != 1) (by simp) (fun c13 => ?_) (fun c13 => ?_)
   · rw [if_pos c13] at hvv1
     refine ko [1, 11] 5 (by simp; rfl) ?_
     refine tops_split 11 (a0.Kind != 2) (by simp) (fun c14 => ?_) (fun c14 => ?_)
     · rw [if_pos c14] at hvv1
       refine kskip 4 [] (by kernel_rfl) ?_
       refine ko [1, 17] 2 (by simp; rfl) ?_
       refine kskip 8 [] (by kernel_rfl) ?_
       refine ko [2] 2 (by simp; rfl) ?_
       refine tops_nil ?_
       cases hvv1
       exact ⟨_, rfl, wk (by simp [weak_iff])⟩
     · rw [if_neg (by rw [c14]; decide)] at hvv1
       refine ko [1, 11, 13] 2 (by simp; rfl) ?_
       replace hvv1 := bnd hvv1; obtain ⟨y2, hy2, hvv1⟩ := hvv1
       refine kcall [1, 11, 14] [] (object_Name_ok hy2) rfl rfl rfl Tryz.call80 (by simp) (by simp; rfl) ?_
       refine ko [1, 17] 3 (by simp; rfl) ?_
       refine tops_split 17 (!y2) (by simp) (fun c15 => ?_) (fun c15 => ?_)
       · rw [if_pos c15] at hvv1
         refine kskip 8 [] (by kernel_rfl) ?_
         refine ko [2] 2 (by simp; rfl) ?_
         refine tops_nil ?_
         cases hvv1
         exact ⟨_, rfl, wk (by simp [weak_iff])⟩
       · rw [if_neg (by rw [c15]; decide)] at hvv1
         refine ko [1, 17, 21] 4 (by simp; rfl) ?_
         refine tops_split 21 (a0.Kind == 2) (by simp) (fun c16 => ?_) (fun c16 => ?_)
         · rw [if_pos c16] at hvv1
           refine ko [2] 6 (by simp; rfl) ?_
           refine tops_nil ?_
           cases hvv1
           exact ⟨_, rfl, wk (by simp [weak_iff])⟩
         · rw [if_neg (by rw [c16]; decide)] at hvv1
           refine kskip 3 [] (by kernel_rfl) ?_
           refine ko [2] 3 (by simp; rfl) ?_
           refine tops_nil ?_
           cases hvv1
           exact ⟨_, rfl, wk (by simp [weak_iff])⟩
   · rw [if_neg (by rw [c13]; decide)] at hvv1
     refine kskip 3 [] (by kernel_rfl) ?_
     refine ko [1, 11, 13] 4 (by simp; rfl) ?_
     replace hvv1 := bnd hvv1; obtain ⟨y3, hy3, hvv1⟩ := hvv1
     refine kcall [1, 11, 14] [] (object_Name_ok hy3) rfl rfl rfl Tryz.call80 (by simp) (by simp; rfl) ?_
     refine ko [1, 17] 3 (by simp; rfl) ?_
     refine tops_split 17 (!y3) (by simp) (fun c17 => ?_) (fun c17 => ?_)
     · rw [if_pos c17] at hvv1
       refine kskip 8 [] (by kernel_rfl) ?_
       refine ko [2] 2 (by simp; rfl) ?_
       refine tops_nil ?_
       cases hvv1
       exact ⟨_, rfl, wk (by simp [weak_iff])⟩
     · rw [if_neg (by rw [c17]; decide)] at hvv1
       refine ko [1, 17, 21] 4 (by simp; rfl) ?_
       refine tops_split 21 (a0.Kind == 2) (by simp) (fun c18 => ?_) (fun c18 => ?_)
       · rw [if_pos c18] at hvv1
         refine ko [2] 6 (by simp; rfl) ?_
         refine tops_nil ?_
         cases hvv1
         exact ⟨_, rfl, wk (by simp [weak_iff])⟩
       · rw [if_neg (by rw [c18]; decide)] at hvv1
         refine kskip 3 [] (by kernel_rfl) ?_
         refine ko [2] 3 (by simp; rfl) ?_
         refine tops_nil ?_
         cases hvv1
         exact ⟨_, rfl, wk (by simp [weak_iff])⟩
set_option maxHeartbeats 1000000 in
theorem history_index_ok {a0 : api_Repository} {r : (List (Int × api_Object)) × Bool} (h0 : history_index a0 = some r) : FnOK Tryz.prog 38 [] [.agg (api_Repository_av a0)] (.tup [.d (.mp (mTag 71 1 false true) 9 (rowsF (mRow (iRow .i64) api_Object_row) r.1)), .d (.bool r.2)]) [] := by
 unfold history_index at h0
 refine fn_ok (nt := 27) (rs := [.tmp 2, .tmp 3]) Tryz.func38 rfl Tryz.ntmps38 rfl (by simp) (by decide) rfl fun K => ?_
 refine kr [1] (by simp; rfl) ?_
 refine kr [1, 4] (by simp; rfl) ?_
 refine tr_seq ?_
 refine kr [1, 4, 9, 10, 11] (by simp; rfl) ?_
 replace h0 := bnd h0; obtain ⟨e1, hI1, h0⟩ := h0
 refine tjv (fun v1 : (List (Int × api_Object)) => ({ nt := 27, env := [(1, .ptr 1 0), (4, .vec 7)], box := [(1, [.d (.slice (rowsF api_Object_row a0.Objects)), .d (.slice (rowsF api_RefEvent_row a0.Events))])], vec := [(7, ⟨mTag 71 1 false true, 9, rowsF (mRow (iRow .i64) api_Object_row) v1⟩)] } : St)) (fun v1 => v1 = e1) (fun v1 hI1e _ W1 => ?_) ?_
 · subst hI1e
   refine tr_wk W1 ?_
   refine kany (S := ({ nt := 27, env := [(2, .vec 7), (3, .d (.bool (((v1).length : Int) == ((a0.Objects).length : Int))))], box := [], vec := [(7, ⟨mTag 71 1 false true, 9, rowsF (mRow (iRow .i64) api_Object_row) v1⟩)] } : St)) fol ?_ ?_
   ·
     refine ao_pure 0 rfl (by decide +kernel) (by decide +kernel) (by simp [pureP, pureB]) (fun c s h => by cases h.1) (by simp; rfl) ?_
     refine ao_pure 1 rfl (by decide +kernel) (by decide +kernel) (by simp [pureP, pureB]) (fun c s h => by cases h.1) (by simp; rfl) ?_
     refine ao_pure 3 rfl (by decide +kernel) (by decide +kernel) (by simp [pureP, pureB]) (fun c s h => by cases h.1) (by simp; rfl) ?_
     refine ao_all [2, 4] (by decide +kernel) (by decide) ?_
     refine aall_cons rfl (by simp; rfl) ?_ ?_
     ·
       refine ao_pure 7 rfl (by decide +kernel) (by decide +kernel) (by simp [pureP, pureB]) (fun c s h => by cases h.1) (by simp; rfl) ?_
       refine ao_all [4] (by decide +kernel) (by decide) ?_
       refine aall_cons rfl (by simp; rfl) ?_ ?_
       ·
         refine ao_all [5] (by decide +kernel) (by decide) ?_
         refine aall_cons rfl (by simp; rfl) ?_ ?_
         ·
           refine ao_all [6] (by decide +kernel) (by decide) ?_
           refine aall_cons rfl (by simp; rfl) ?_ ?_
           ·
             refine ao_pure 8 rfl (by decide +kernel) (by decide +kernel) (by simp [pureP, pureB]) (fun c s h => by cases h.1) (by simp; rfl) ?_
             exact ao_end (by decide +kernel) ⟨rfl, weak_iff.2 (by simp)⟩
           exact trivial
         exact trivial
       exact trivial
     refine aall_cons rfl (by simp; rfl) ?_ ?_
     ·
       refine ao_all [2, 5] (by decide +kernel) (by decide) ?_
       refine aall_cons rfl (by simp; rfl) ?_ ?_
       ·
         refine ao_pure 7 rfl (by decide +kernel) (by decide +kernel) (by simp [pureP, pureB]) (fun c s h => by cases h.1) (by simp; rfl) ?_
         refine ao_all [5] (by decide +kernel) (by decide) ?_
         refine aall_cons rfl (by simp; rfl) ?_ ?_
         ·
           refine ao_all [6] (by decide +kernel) (by decide) ?_
           refine aall_cons rfl (by simp; rfl) ?_ ?_
           ·
             refine ao_pure 8 rfl (by decide +kernel) (by decide +kernel) (by simp [pureP, pureB]) (fun c s h => by cases h.1) (by simp; rfl) ?_
             exact ao_end (by decide +kernel) ⟨rfl, weak_iff.2 (by simp)⟩
           exact trivial
         exact trivial
       refine aall_cons rfl (by simp; rfl) ?_ ?_
       ·
         refine ao_all [2] (by decide +kernel) (by decide) ?_
         refine aall_cons rfl (by simp; rfl) ?_ ?_
         ·
           refine ao_pure 7 rfl (by decide +kernel) (by decide +kernel) (by simp [pureP, pureB]) (fun c s h => by cases h.1) (by simp; rfl) ?_
           refine ao_all [6] (by decide +kernel) (by decide) ?_
           refine aall_cons rfl (by simp; rfl) ?_ ?_
           ·
             refine ao_pure 8 rfl (by decide +kernel) (by decide +kernel) (by simp [pureP, pureB]) (fun c s h => by cases h.1) (by simp; rfl) ?_
             exact ao_end (by decide +kernel) ⟨rfl, weak_iff.2 (by simp)⟩
           exact trivial
         exact trivial
       exact trivial
     exact trivial
   ·
     cases h0
     exact tr_ret ⟨[7], by simp, rfl, by simp⟩
 · refine tr_block (tr_iter (fun s2 : Int × (List (Int × api_Object)) => ({ nt := 27, env := [(1, .ptr 1 0), (4, .vec 7), (9, .d (.slice (rowsF api_Object_row a0.Objects))), (10, .d (.int .i64 ((a0.Objects).length : Int))), (11, .d (.int .i64 s2.1))], box := [(1, [.d (.slice (rowsF api_Object_row a0.Objects)), .d (.slice (rowsF api_RefEvent_row a0.Events))])], vec := [(7, ⟨mTag 71 1 false true, 9, rowsF (mRow (iRow .i64) api_Object_row) s2.2⟩)] } : St)) hI1 (wk (by simp [weak_iff])) fun G1 s2 o1 h1 hg1 he1 => ?_)
   unfold history_index_l0 at h1
   refine kr [1, 4, 9, 10, 11, 12] (by simp; rfl) ?_
   refine tr_seq ?_
   refine tr_cond (b := (decide (s2.1 < ((a0.Objects).length : Int)))) (by simp) (fun c3 => ?_) (fun c3 => ?_)
   · rw [if_pos c3] at h1
     refine tr_skip ?_
     refine tr_seq ?_
     refine tr_block ?_
     replace h1 := bnd h1; obtain ⟨x3, p3, h1⟩ := h1
     replace p3 := idx_some p3
     have p3' := p3; try simp at p3'
     refine kr [1, 4, 6, 9, 10, 11] (by simp [p3, p3']; rfl) ?_
     refine lr (by simp; rfl) ?_
     refine lr (by simp; rfl) ?_
     exact ⟨_, hg1 _ (Option.some.inj h1), wk (by simp [weak_iff])⟩
   · rw [if_neg (by rw [c3]; decide)] at h1
     refine tr_exit ?_
     exact ⟨_, he1 _ (Option.some.inj h1), wk (by simp [weak_iff])⟩
set_option maxHeartbeats 1000000 in
theorem history_nameless_ok {a0 : api_Repository} {a1 : List (Int × api_Object)} {r : Bool} (h0 : history_nameless a0 a1 = some r) : FnOK Tryz.prog 47 [] [.agg (api_Repository_av a0), .d (.mp (mTag 71 1 false true) 9 (rowsF (mRow (iRow .i64) api_Object_row) a1))] (.d (.bool r)) [] := by
 unfold history_nameless at h0
 refine fn_ok (nt := 46) (rs := [.tmp 4]) Tryz.func47 rfl Tryz.ntmps47 rfl (by simp) (by decide) rfl fun K => ?_
 refine kr [1, 2] (by simp; rfl) ?_
 refine kr [1, 2, 5] (by simp; rfl) ?_
 refine tr_seq ?_
 refine kr [1, 5, 10, 11, 12] (by simp; rfl) ?_
 replace h0 := bnd h0; obtain ⟨e1, hI1, h0⟩ := h0
 refine tjv (fun v1 : Unit => ({ nt := 46, env := [], box := [], vec := [] } : St)) (fun v1 => .inl v1 = e1) (fun v1 hI1e _ W1 => ?_) ?_
 · subst hI1e
   dsimp only at h0
   refine tr_wk W1 ?_
   refine kr [4] (by simp; rfl) ?_
   cases h0
   exact tr_ret ⟨[], by simp, rfl, by simp⟩
 · refine tr_block (tr_iter (fun s2 : Int × (List (ByteArray × Bool)) => ({ nt := 46, env := [(1, .d (.mp (mTag 71 1 false true) 9 (rowsF (mRow (iRow .i64) api_Object_row) a1))), (5, .vec 8), (10, .d (.slice (rowsF api_RefEvent_row a0.Events))), (11, .d (.int .i64 ((a0.Events).length : Int))), (12, .d (.int .i64 s2.1))], box := [], vec := [(8, ⟨mTag 87 1 false false, 2, rowsF (mRow sRow bRow) s2.2⟩)] } : St)) hI1 (wk (by simp [weak_iff])) fun G1 s2 o1 h1 hg1 he1 => ?_)
   unfold history_nameless_l0 at h1
   refine kr [1, 5, 10, 11, 12, 13] (by simp; rfl) ?_
   refine tr_seq ?_
   refine tr_cond (b := (decide (s2.1 < ((a0.Events).length : Int)))) (by simp) (fun c13 => ?_) (fun c13 => ?_)
   · rw [if_pos c13] at h1
     refine tr_skip ?_
     refine tr_seq ?_
     refine tr_block ?_
     replace h1 := bnd h1; obtain ⟨x3, p3, h1⟩ := h1
     replace p3 := idx_some p3
     have p3' := p3; try simp at p3'
     refine kr [1, 5, 7, 10, 11, 12] (by simp [p3, p3']; rfl) ?_
     refine tr_seq ?_
     replace h1 := bnd h1; obtain ⟨v4, hvv4, h1⟩ := h1
     refine sjv (fun v4_ : Bool => ({ nt := 46, env := [(1, .d (.mp (mTag 71 1 false true) 9 (rowsF (mRow (iRow .i64) api_Object_row) a1))), (5, .vec 8), (7, .ptr 7 0), (10, .d (.slice (rowsF api_RefEvent_row a0.Events))), (11, .d (.int .i64 ((a0.Events).length : Int))), (12, .d (.int .i64 s2.1)), (38, .d (.bool v4_))], box := [(7, [.d (.int .i64 x3.Kind), .d (.str x3.Name), .d (.int .i64 x3.Commit), .d (.int .i64 x3.Time)])], vec := [(8, ⟨mTag 87 1 false false, 2, rowsF (mRow sRow bRow) s2.2⟩)] } : St)) (fun v4_ => v4 = v4_) (fun v4_ e => ?_) ?_
     · subst e
       refine tr_cond (b := v4) (by simp) (fun c22 => ?_) (fun c22 => ?_)
       · rw [if_pos c22] at h1
         refine kr [4] (by simp; rfl) ?_
         have k1 := he1 _ (Option.some.inj h1)
         subst k1
         dsimp only at h0
         cases h0
         exact tr_ret ⟨[], by simp, rfl, by simp⟩
       · rw [if_neg (by rw [c22]; decide)] at h1
         refine tr_skip ?_
         refine lr (by simp; rfl) ?_
         refine lr (by simp; rfl) ?_
         exact ⟨_, hg1 _ (Option.some.inj h1), wk (by simp [weak_iff])⟩
     · refine kc1 ?_
       refine ko [1, 5, 7, 10, 11, 12, 19] 4 (by simp; rfl) ?_
       refine tops_split 19 (x3.Kind == 1) (by simp) (fun c23 => ?_) (fun c23 => ?_)
       · rw [c23] at hvv4
         refine ko [1, 5, 7, 10, 11, 12, 20, 21, 22, 23, 24, 25, 27] 8 (by simp; rfl) ?_
         refine tops_split 27 ((((mget inE a1 x3.Commit).getD (⟨0, 0, [], [], 0, [], ByteArray.empty, 0⟩ : api_Object)).Kind) != 3) (by simp) (fun c24 => ?_) (fun c24 => ?_)
         · rw [c24] at hvv4
           refine kskip 10 [] (by kernel_rfl) ?_
           refine ko [1, 5, 7, 10, 11, 12, 20, 21, 22, 23, 24, 25, 38] 1 (by simp; rfl) ?_
           refine tops_nil ?_
           cases hvv4
           exact ⟨_, rfl, wk (by simp [weak_iff])⟩
         · rw [c24] at hvv4
           refine ko [1, 5, 7, 10, 11, 12, 20, 21, 22, 23, 24, 25, 27, 28, 29, 30, 31] 4 (by simp; rfl) ?_
           refine tops_split 31 (x3.Kind == 2) (by simp) (fun c25 => ?_) (fun c25 => ?_)
           · rw [c25] at hvv4
             refine ko [1, 5, 7, 10, 11, 12, 20, 21, 22, 23, 24, 25, 28, 29, 30, 31, 32, 33, 34, 35, 36, 37, 38] 7 (by simp; rfl) ?_
             refine tops_nil ?_
             cases hvv4
             exact ⟨_, rfl, wk (by simp [weak_iff])⟩
           · rw [c25] at hvv4
             refine kskip 5 [] (by kernel_rfl) ?_
             refine ko [1, 5, 7, 10, 11, 12, 20, 21, 22, 23, 24, 25, 28, 29, 30, 31, 37, 38] 2 (by simp; rfl) ?_
             refine tops_nil ?_
             cases hvv4
             exact ⟨_, rfl, wk (by simp [weak_iff])⟩
       · rw [c23] at hvv4
         refine kskip 6 [] (by kernel_rfl) ?_
         refine ko [1, 5, 7, 10, 11, 12, 27, 28, 29, 30, 31] 6 (by simp; rfl) ?_
         refine tops_split 31 (x3.Kind == 2) (by simp) (fun c26 => ?_) (fun c26 => ?_)
         · rw [c26] at hvv4
           refine ko [1, 5, 7, 10, 11, 12, 28, 29, 30, 31, 32, 33, 34, 35, 36, 37, 38] 7 (by simp; rfl) ?_
           refine tops_nil ?_
           cases hvv4
           exact ⟨_, rfl, wk (by simp [weak_iff])⟩
         · rw [c26] at hvv4
           refine kskip 5 [] (by kernel_rfl) ?_
           refine ko [1, 5, 7, 10, 11, 12, 28, 29, 30, 31, 37, 38] 2 (by simp; rfl) ?_
           refine tops_nil ?_
           cases hvv4
           exact ⟨_, rfl, wk (by simp [weak_iff])⟩
   · rw [if_neg (by rw [c13]; decide)] at h1
     refine tr_exit ?_
     exact ⟨_, he1 _ (Option.some.inj h1), wk (by simp [weak_iff])⟩
set_option maxHeartbeats 1000000 in
theorem history_Valid_3_ok {a0 : api_RefEvent} {r : Bool} (h0 : history_Valid_3 a0 = some r) : FnOK Tryz.prog 49 [] [.agg (api_RefEvent_av a0)] (.d (.bool r)) [] := by
 unfold history_Valid_3 at h0
 refine fn_ok (nt := 11) (rs := [.tmp 2]) Tryz.func49 rfl Tryz.ntmps49 rfl (by simp) (by decide) rfl fun K => ?_
 refine kr [1] (by simp; rfl) ?_
 replace h0 := bnd h0; obtain ⟨v1, hvv1, h0⟩ := h0
 refine sjv (fun v1_ : Bool => ({ nt := 11, env := [(2, .d (.bool v1_))], box := [], vec := [] } : St)) (fun v1_ => v1 = v1_) (fun v1_ e => ?_) ?_
 · subst e
   cases h0
   exact tr_ret ⟨[], by simp, rfl, by simp⟩
 · refine kc1 ?_
   refine ko [1, 6] 4 (by simp; rfl) ?_
   refine tops_split 6 (decide (a0.Time < 0)) (by simp) (fun c3 => ?_) (fun c3 => ?_)
   · rw [c3] at hvv1
     refine kskip 3 [] (by kernel_rfl) ?_
     refine ko [2] 2 (by simp; rfl) ?_
     refine tops_nil ?_
     cases hvv1
     exact ⟨_, rfl, wk (by simp [weak_iff])⟩
   · rw [c3] at hvv1
     refine ko [2] 5 (by simp; rfl) ?_
     refine tops_nil ?_
     cases hvv1
     exact ⟨_, rfl, wk (by simp [weak_iff])⟩
set_option maxHeartbeats 1000000 in
theorem cmp_isNaN_int_ok {a0 : Int} {r : Bool} (h0 : cmp_isNaN_int a0 = some r) : FnOK Tryz.prog 87 [] [.d (.int .i64 a0)] (.d (.bool r)) [] := by
 unfold cmp_isNaN_int at h0
 refine fn_ok (nt := 6) (rs := [.tmp 2]) Tryz.func87 rfl Tryz.ntmps87 rfl (by simp) (by decide) rfl fun K => ?_
 refine kr [0] (by simp; rfl) ?_
 refine kr [2] (by simp; rfl) ?_
 cases h0
 exact tr_ret ⟨[], by simp, rfl, by simp⟩
set_option maxHeartbeats 1000000 in
theorem cmp_Compare_int_ok {a0 : Int} {a1 : Int} {r : Int} (h0 : cmp_Compare_int a0 a1 = some r) : FnOK Tryz.prog 52 [] [.d (.int .i64 a0), .d (.int .i64 a1)] (.d (.int .i64 r)) [] := by
 unfold cmp_Compare_int at h0
 refine fn_ok (nt := 20) (rs := [.tmp 4]) Tryz.func52 rfl Tryz.ntmps52 rfl (by simp) (by decide) rfl fun K => ?_
 refine kr [0, 1] (by simp; rfl) ?_
 refine kc ?_
 refine ko [0, 1, 7] 1 (by simp; rfl) ?_
 replace h0 := bnd h0; obtain ⟨y1, hy1, h0⟩ := h0
 refine kcall [0, 1, 8] [] (cmp_isNaN_int_ok hy1) rfl rfl rfl Tryz.call87 (by simp) (by simp; rfl) ?_
 refine ko [0, 1, 5] 1 (by simp; rfl) ?_
 refine tops_nil ?_
 refine kc ?_
 refine ko [0, 1, 5, 9] 1 (by simp; rfl) ?_
 replace h0 := bnd h0; obtain ⟨y2, hy2, h0⟩ := h0
 refine kcall [0, 1, 5, 10] [] (cmp_isNaN_int_ok hy2) rfl rfl rfl Tryz.call87 (by simp) (by simp; rfl) ?_
 refine ko [0, 1, 5, 6] 1 (by simp; rfl) ?_
 refine tops_nil ?_
 refine tr_seq ?_
 refine kr [0, 1, 6, 11] (by simp; rfl) ?_
 refine tr_cond (b := y1) (by simp) (fun c1 => ?_) (fun c1 => ?_)
 · rw [if_pos c1] at h0
   refine tr_seq ?_
   refine kr [12] (by simp; rfl) ?_
   refine tr_cond (b := y2) (by simp) (fun c2 => ?_) (fun c2 => ?_)
   · rw [if_pos c2] at h0
     refine kr [4] (by simp; rfl) ?_
     cases h0
     exact tr_ret ⟨[], by simp, rfl, by simp⟩
   · rw [if_neg (by rw [c2]; decide)] at h0
     refine tr_skip ?_
     refine kr [4] (by simp; rfl) ?_
     cases h0
     exact tr_ret ⟨[], by simp, rfl, by simp⟩
 · rw [if_neg (by rw [c1]; decide)] at h0
   refine tr_skip ?_
   refine tr_seq ?_
   refine kr [0, 1, 13] (by simp; rfl) ?_
   refine tr_cond (b := y2) (by simp) (fun c3 => ?_) (fun c3 => ?_)
   · rw [if_pos c3] at h0
     refine kr [4] (by simp; rfl) ?_
     cases h0
     exact tr_ret ⟨[], by simp, rfl, by simp⟩
   · rw [if_neg (by rw [c3]; decide)] at h0
     refine tr_skip ?_
     refine tr_seq ?_
     refine kr [0, 1, 16] (by simp; rfl) ?_
     refine tr_cond (b := (decide (a0 < a1))) (by simp) (fun c4 => ?_) (fun c4 => ?_)
     · rw [if_pos c4] at h0
       refine kr [4] (by simp; rfl) ?_
       cases h0
       exact tr_ret ⟨[], by simp, rfl, by simp⟩
     · rw [if_neg (by rw [c4]; decide)] at h0
       refine tr_skip ?_
       refine tr_seq ?_
       refine kr [19] (by simp; rfl) ?_
       refine tr_cond (b := (decide (a1 < a0))) (by simp) (fun c5 => ?_) (fun c5 => ?_)
       · rw [if_pos c5] at h0
         refine kr [4] (by simp; rfl) ?_
         cases h0
         exact tr_ret ⟨[], by simp, rfl, by simp⟩
       · rw [if_neg (by rw [c5]; decide)] at h0
         refine tr_skip ?_
         refine kr [4] (by simp; rfl) ?_
         cases h0
         exact tr_ret ⟨[], by simp, rfl, by simp⟩
set_option maxHeartbeats 1000000 in
theorem history_Valid_4_ok {a0 : api_RefEvent} {a1 : api_RefEvent} {r : Int} (h0 : history_Valid_4 a0 a1 = some r) : FnOK Tryz.prog 51 [] [.agg (api_RefEvent_av a0), .agg (api_RefEvent_av a1)] (.d (.int .i64 r)) [] := by
 unfold history_Valid_4 at h0
 refine fn_ok (nt := 10) (rs := [.tmp 4]) Tryz.func51 rfl Tryz.ntmps51 rfl (by simp) (by decide) rfl fun K => ?_
 refine kr [2, 3] (by simp; rfl) ?_
 refine kc ?_
 refine ko [6, 8] 4 (by simp; rfl) ?_
 replace h0 := bnd h0; obtain ⟨y1, hy1, h0⟩ := h0
 refine kcall [9] [] (cmp_Compare_int_ok hy1) rfl rfl rfl Tryz.call52 (by simp) (by simp; rfl) ?_
 refine ko [4] 1 (by simp; rfl) ?_
 refine tops_nil ?_
 cases h0
 exact tr_ret ⟨[], by simp, rfl, by simp⟩
set_option maxHeartbeats 1000000 in
theorem slices_IndexFunc_api_Object_at_history_Valid_1_ok {a0 : List api_Object} {r : Int} (h0 : slices_IndexFunc_api_Object_at_history_Valid_1 a0 = some r) : FnOK Tryz.prog 76 [] [.d (.slice (rowsF api_Object_row a0)), .fn 41 []] (.d (.int .i64 r)) [] := by
 unfold slices_IndexFunc_api_Object_at_history_Valid_1 at h0
 refine fn_ok (nt := 19) (rs := [.tmp 4]) Tryz.func76 rfl Tryz.ntmps76 rfl (by simp) (by decide) rfl fun K => ?_
 refine kr [0, 1] (by simp; rfl) ?_
 refine tr_seq ?_
 refine kr [0, 1, 7, 8] (by simp; rfl) ?_
 replace h0 := bnd h0; obtain ⟨e1, hI1, h0⟩ := h0
 refine tjv (fun v1 : Unit => ({ nt := 19, env := [], box := [], vec := [] } : St)) (fun v1 => .inl v1 = e1) (fun v1 hI1e _ W1 => ?_) ?_
 · subst hI1e
   dsimp only at h0
   refine tr_wk W1 ?_
   refine kr [4] (by simp; rfl) ?_
   cases h0
   exact tr_ret ⟨[], by simp, rfl, by simp⟩
 · refine tr_block (tr_iter (fun s2 : Int => ({ nt := 19, env := [(0, .d (.slice (rowsF api_Object_row a0))), (1, .fn 41 []), (7, .d (.int .i64 ((a0).length : Int))), (8, .d (.int .i64 s2))], box := [], vec := [] } : St)) hI1 (wk (by simp [weak_iff])) fun G1 s2 o1 h1 hg1 he1 => ?_)
   unfold slices_IndexFunc_api_Object_at_history_Valid_1_l0 at h1
   refine kr [0, 1, 7, 8, 9] (by simp; rfl) ?_
   refine tr_seq ?_
   refine tr_cond (b := (decide (s2 < ((a0).length : Int)))) (by simp) (fun c5 => ?_) (fun c5 => ?_)
   · rw [if_pos c5] at h1
     refine tr_skip ?_
     refine tr_seq ?_
     refine tr_block ?_
     refine kr [0, 1, 5, 7, 8] (by simp; rfl) ?_
     refine kc ?_
     replace h1 := bnd h1; obtain ⟨x3, p3, h1⟩ := h1
     replace p3 := idx_some p3
     have p3' := p3; try simp at p3'
     refine ko [0, 1, 5, 7, 8, 11, 15] 5 (by simp [p3, p3']; rfl) ?_
     replace h1 := bnd h1; obtain ⟨y4, hy4, h1⟩ := h1
     refine kcallV [0, 1, 5, 7, 8, 16] [] [] [] (history_Valid_1_ok hy4) rfl rfl rfl Tryz.call41 (by simp) (by simp; rfl) ?_
     refine tops_nil ?_
     refine tr_cond (b := y4) (by simp) (fun c6 => ?_) (fun c6 => ?_)
     · rw [if_pos c6] at h1
       refine kr [4] (by simp; rfl) ?_
       have k1 := he1 _ (Option.some.inj h1)
       subst k1
       dsimp only at h0
       cases h0
       exact tr_ret ⟨[], by simp, rfl, by simp⟩
     · rw [if_neg (by rw [c6]; decide)] at h1
       refine tr_skip ?_
       refine lr (by simp; rfl) ?_
       exact ⟨_, hg1 _ (Option.some.inj h1), wk (by simp [weak_iff])⟩
   · rw [if_neg (by rw [c5]; decide)] at h1
     refine tr_exit ?_
     exact ⟨_, he1 _ (Option.some.inj h1), wk (by simp [weak_iff])⟩
set_option maxHeartbeats 1000000 in
theorem slices_ContainsFunc_api_Object_at_history_Valid_1_ok {a0 : List api_Object} {r : Bool} (h0 : slices_ContainsFunc_api_Object_at_history_Valid_1 a0 = some r) : FnOK Tryz.prog 40 [] [.d (.slice (rowsF api_Object_row a0)), .fn 41 []] (.d (.bool r)) [] := by
 unfold slices_ContainsFunc_api_Object_at_history_Valid_1 at h0
 refine fn_ok (nt := 9) (rs := [.tmp 4]) Tryz.func40 rfl Tryz.ntmps40 rfl (by simp) (by decide) rfl fun K => ?_
 refine kr [0, 1] (by simp; rfl) ?_
 refine kc ?_
 refine ko [5, 6] 2 (by simp; rfl) ?_
 replace h0 := bnd h0; obtain ⟨y1, hy1, h0⟩ := h0
 refine kcall [7] [] (slices_IndexFunc_api_Object_at_history_Valid_1_ok hy1) rfl rfl rfl Tryz.call76 (by simp) (by simp; rfl) ?_
 refine ko [4] 2 (by simp; rfl) ?_
 refine tops_nil ?_
 cases h0
 exact tr_ret ⟨[], by simp, rfl, by simp⟩
set_option maxHeartbeats 1000000 in
theorem slices_IndexFunc_api_RefEvent_at_history_wrong_ok {a0 : List api_RefEvent} {r : Int} (h0 : slices_IndexFunc_api_RefEvent_at_history_wrong a0 = some r) : FnOK Tryz.prog 79 [] [.d (.slice (rowsF api_RefEvent_row a0)), .fn 44 []] (.d (.int .i64 r)) [] := by
 unfold slices_IndexFunc_api_RefEvent_at_history_wrong at h0
 refine fn_ok (nt := 19) (rs := [.tmp 4]) Tryz.func79 rfl Tryz.ntmps79 rfl (by simp) (by decide) rfl fun K => ?_
 refine kr [0, 1] (by simp; rfl) ?_
 refine tr_seq ?_
 refine kr [0, 1, 7, 8] (by simp; rfl) ?_
 replace h0 := bnd h0; obtain ⟨e1, hI1, h0⟩ := h0
 refine tjv (fun v1 : Unit => ({ nt := 19, env := [], box := [], vec := [] } : St)) (fun v1 => .inl v1 = e1) (fun v1 hI1e _ W1 => ?_) ?_
 · subst hI1e
   dsimp only at h0
   refine tr_wk W1 ?_
   refine kr [4] (by simp; rfl) ?_
   cases h0
   exact tr_ret ⟨[], by simp, rfl, by simp⟩
 · refine tr_block (tr_iter (fun s2 : Int => ({ nt := 19, env := [(0, .d (.slice (rowsF api_RefEvent_row a0))), (1, .fn 44 []), (7, .d (.int .i64 ((a0).length : Int))), (8, .d (.int .i64 s2))], box := [], vec := [] } : St)) hI1 (wk (by simp [weak_iff])) fun G1 s2 o1 h1 hg1 he1 => ?_)
   unfold slices_IndexFunc_api_RefEvent_at_history_wrong_l0 at h1
   refine kr [0, 1, 7, 8, 9] (by simp; rfl) ?_
   refine tr_seq ?_
   refine tr_cond (b := (decide (s2 < ((a0).length : Int)))) (by simp) (fun c5 => ?_) (fun c5 => ?_)
   · rw [if_pos c5] at h1
     refine tr_skip ?_
     refine tr_seq ?_
     refine tr_block ?_
     refine kr [0, 1, 5, 7, 8] (by simp; rfl) ?_
     refine kc ?_
     replace h1 := bnd h1; obtain ⟨x3, p3, h1⟩ := h1
     replace p3 := idx_some p3
     have p3' := p3; try simp at p3'
     refine ko [0, 1, 5, 7, 8, 11, 15] 5 (by simp [p3, p3']; rfl) ?_
     replace h1 := bnd h1; obtain ⟨y4, hy4, h1⟩ := h1
     refine kcallV [0, 1, 5, 7, 8, 16] [] [] [] (history_wrong_ok hy4) rfl rfl rfl Tryz.call44 (by simp) (by simp; rfl) ?_
     refine tops_nil ?_
     refine tr_cond (b := y4) (by simp) (fun c6 => ?_) (fun c6 => ?_)
     · rw [if_pos c6] at h1
       refine kr [4] (by simp; rfl) ?_
       have k1 := he1 _ (Option.some.inj h1)
       subst k1
       dsimp only at h0
       cases h0
       exact tr_ret ⟨[], by simp, rfl, by simp⟩
     · rw [if_neg (by rw [c6]; decide)] at h1
       refine tr_skip ?_
       refine lr (by simp; rfl) ?_
       exact ⟨_, hg1 _ (Option.some.inj h1), wk (by simp [weak_iff])⟩
   · rw [if_neg (by rw [c5]; decide)] at h1
     refine tr_exit ?_
     exact ⟨_, he1 _ (Option.some.inj h1), wk (by simp [weak_iff])⟩
set_option maxHeartbeats 1000000 in
theorem slices_ContainsFunc_api_RefEvent_at_history_wrong_ok {a0 : List api_RefEvent} {r : Bool} (h0 : slices_ContainsFunc_api_RefEvent_at_history_wrong a0 = some r) : FnOK Tryz.prog 43 [] [.d (.slice (rowsF api_RefEvent_row a0)), .fn 44 []] (.d (.bool r)) [] := by
 unfold slices_ContainsFunc_api_RefEvent_at_history_wrong at h0
 refine fn_ok (nt := 9) (rs := [.tmp 4]) Tryz.func43 rfl Tryz.ntmps43 rfl (by simp) (by decide) rfl fun K => ?_
 refine kr [0, 1] (by simp; rfl) ?_
 refine kc ?_
 refine ko [5, 6] 2 (by simp; rfl) ?_
 replace h0 := bnd h0; obtain ⟨y1, hy1, h0⟩ := h0
 refine kcall [7] [] (slices_IndexFunc_api_RefEvent_at_history_wrong_ok hy1) rfl rfl rfl Tryz.call79 (by simp) (by simp; rfl) ?_
 refine ko [4] 2 (by simp; rfl) ?_
 refine tops_nil ?_
 cases h0
 exact tr_ret ⟨[], by simp, rfl, by simp⟩
set_option maxHeartbeats 1000000 in
theorem history_missing_ok {a0 : List (Int × api_Object)} {a1 : api_Object} {r : Bool} (h0 : history_missing a0 a1 = some r) : FnOK Tryz.prog 46 [] [.d (.mp (mTag 71 1 false true) 9 (rowsF (mRow (iRow .i64) api_Object_row) a0)), .agg (api_Object_av a1)] (.d (.bool r)) [] := by
 unfold history_missing at h0
 refine fn_ok (nt := 53) (rs := [.tmp 4]) Tryz.func46 rfl Tryz.ntmps46 rfl (by simp) (by decide) rfl fun K => ?_
 refine kr [0, 3] (by simp; rfl) ?_
 refine tr_seq ?_
 refine kr [0, 3, 11, 12, 13] (by simp; rfl) ?_
 replace h0 := bnd h0; obtain ⟨e1, hI1, h0⟩ := h0
 refine tjv (fun v1 : Unit => ({ nt := 53, env := [(0, .d (.mp (mTag 71 1 false true) 9 (rowsF (mRow (iRow .i64) api_Object_row) a0))), (3, .ptr 3 0)], box := [(3, [.d (.int .i64 a1.ID), .d (.int .i64 a1.Kind), .d (.slice (rowsF (iRow .u8) a1.Data)), .d (.slice (rowsF api_Item_row a1.Items)), .d (.int .i64 a1.Tree), .d (.slice (rowsF (iRow .i64) a1.Parents)), .d (.str a1.Author), .d (.int .i64 a1.Time)])], vec := [] } : St)) (fun v1 => .inl v1 = e1) (fun v1 hI1e _ W1 => ?_) ?_
 · subst hI1e
   dsimp only at h0
   refine tr_wk W1 ?_
   refine tr_seq ?_
   refine kr [0, 3, 30, 31, 32] (by simp; rfl) ?_
   replace h0 := bnd h0; obtain ⟨e2, hI2, h0⟩ := h0
   refine tjv (fun v2 : Unit => ({ nt := 53, env := [(0, .d (.mp (mTag 71 1 false true) 9 (rowsF (mRow (iRow .i64) api_Object_row) a0))), (3, .ptr 3 0)], box := [(3, [.d (.int .i64 a1.ID), .d (.int .i64 a1.Kind), .d (.slice (rowsF (iRow .u8) a1.Data)), .d (.slice (rowsF api_Item_row a1.Items)), .d (.int .i64 a1.Tree), .d (.slice (rowsF (iRow .i64) a1.Parents)), .d (.str a1.Author), .d (.int .i64 a1.Time)])], vec := [] } : St)) (fun v2 => .inl v2 = e2) (fun v2 hI2e _ W2 => ?_) ?_
   · subst hI2e
     dsimp only at h0
     refine tr_wk W2 ?_
     replace h0 := bnd h0; obtain ⟨v3, hvv3, h0⟩ := h0
     refine sjv (fun v3_ : Bool => ({ nt := 53, env := [(4, .d (.bool v3_))], box := [], vec := [] } : St)) (fun v3_ => v3 = v3_) (fun v3_ e => ?_) ?_
     · subst e
       cases h0
       exact tr_ret ⟨[], by simp, rfl, by simp⟩
     · refine kc1 ?_
       refine ko [0, 3, 45] 4 (by simp; rfl) ?_
       refine tops_split 45 (a1.Kind == 3) (by simp) (fun c13 => ?_) (fun c13 => ?_)
       · rw [c13] at hvv3
         refine ko [4] 8 (by simp; rfl) ?_
         refine tops_nil ?_
         cases hvv3
         exact ⟨_, rfl, wk (by simp [weak_iff])⟩
       · rw [c13] at hvv3
         refine kskip 6 [] (by kernel_rfl) ?_
         refine ko [4] 2 (by simp; rfl) ?_
         refine tops_nil ?_
         cases hvv3
         exact ⟨_, rfl, wk (by simp [weak_iff])⟩
   · refine tr_block (tr_iter (fun s4 : Int => ({ nt := 53, env := [(0, .d (.mp (mTag 71 1 false true) 9 (rowsF (mRow (iRow .i64) api_Object_row) a0))), (3, .ptr 3 0), (30, .d (.slice (rowsF (iRow .i64) a1.Parents))), (31, .d (.int .i64 ((a1.Parents).length : Int))), (32, .d (.int .i64 s4))], box := [(3, [.d (.int .i64 a1.ID), .d (.int .i64 a1.Kind), .d (.slice (rowsF (iRow .u8) a1.Data)), .d (.slice (rowsF api_Item_row a1.Items)), .d (.int .i64 a1.Tree), .d (.slice (rowsF (iRow .i64) a1.Parents)), .d (.str a1.Author), .d (.int .i64 a1.Time)])], vec := [] } : St)) hI2 (wk (by simp [weak_iff])) fun G2 s4 o2 h2 hg2 he2 => ?_)
     unfold history_missing_l1 at h2
     refine kr [0, 3, 30, 31, 32, 33] (by simp; rfl) ?_
     refine tr_seq ?_
     refine tr_cond (b := (decide (s4 < ((a1.Parents).length : Int)))) (by simp) (fun c14 => ?_) (fun c14 => ?_)
     · rw [if_pos c14] at h2
       refine tr_skip ?_
       refine tr_seq ?_
       refine tr_block ?_
       replace h2 := bnd h2; obtain ⟨x5, p5, h2⟩ := h2
       replace p5 := idx_some p5
       have p5' := p5; try simp at p5'
       refine kr [0, 3, 9, 30, 31, 32] (by simp [p5, p5']; rfl) ?_
       refine kr [0, 3, 30, 31, 32, 40] (by simp; rfl) ?_
       refine tr_cond (b := ((((mget inE a0 x5).getD (⟨0, 0, [], [], 0, [], ByteArray.empty, 0⟩ : api_Object)).Kind) != 3)) (by simp) (fun c15 => ?_) (fun c15 => ?_)
       · rw [if_pos c15] at h2
         refine kr [4] (by simp; rfl) ?_
         have k1 := he2 _ (Option.some.inj h2)
         subst k1
         dsimp only at h0
         cases h0
         exact tr_ret ⟨[], by simp, rfl, by simp⟩
       · rw [if_neg (by rw [c15]; decide)] at h2
         refine tr_skip ?_
         refine lr (by simp; rfl) ?_
         exact ⟨_, hg2 _ (Option.some.inj h2), wk (by simp [weak_iff])⟩
     · rw [if_neg (by rw [c14]; decide)] at h2
       refine tr_exit ?_
       exact ⟨_, he2 _ (Option.some.inj h2), wk (by simp [weak_iff])⟩
 · refine tr_block (tr_iter (fun s8 : Int => ({ nt := 53, env := [(0, .d (.mp (mTag 71 1 false true) 9 (rowsF (mRow (iRow .i64) api_Object_row) a0))), (3, .ptr 3 0), (11, .d (.slice (rowsF api_Item_row a1.Items))), (12, .d (.int .i64 ((a1.Items).length : Int))), (13, .d (.int .i64 s8))], box := [(3, [.d (.int .i64 a1.ID), .d (.int .i64 a1.Kind), .d (.slice (rowsF (iRow .u8) a1.Data)), .d (.slice (rowsF api_Item_row a1.Items)), .d (.int .i64 a1.Tree), .d (.slice (rowsF (iRow .i64) a1.Parents)), .d (.str a1.Author), .d (.int .i64 a1.Time)])], vec := [] } : St)) hI1 (wk (by simp [weak_iff])) fun G2 s8 o2 h2 hg2 he2 => ?_)
   unfold history_missing_l0 at h2
   refine kr [0, 3, 11, 12, 13, 14] (by simp; rfl) ?_
   refine tr_seq ?_
   refine tr_cond (b := (decide (s8 < ((a1.Items).length : Int)))) (by simp) (fun c16 => ?_) (fun c16 => ?_)
   · rw [if_pos c16] at h2
     refine tr_skip ?_
     refine tr_seq ?_
     refine tr_block ?_
     replace h2 := bnd h2; obtain ⟨x9, p6, h2⟩ := h2
     replace p6 := idx_some p6
     have p6' := p6; try simp at p6'
     refine kr [0, 3, 6, 11, 12, 13] (by simp [p6, p6']; rfl) ?_
     refine kr [0, 3, 7, 11, 12, 13] (by simp; rfl) ?_
     replace h2 := bnd h2; obtain ⟨v10, hvv10, h2⟩ := h2
     refine sjv (fun v10_ : Bool => ({ nt := 53, env := [(0, .d (.mp (mTag 71 1 false true) 9 (rowsF (mRow (iRow .i64) api_Object_row) a0))), (3, .ptr 3 0), (11, .d (.slice (rowsF api_Item_row a1.Items))), (12, .d (.int .i64 ((a1.Items).length : Int))), (13, .d (.int .i64 s8)), (27, .d (.bool v10_))], box := [(3, [.d (.int .i64 a1.ID), .d (.int .i64 a1.Kind), .d (.slice (rowsF (iRow .u8) a1.Data)), .d (.slice (rowsF api_Item_row a1.Items)), .d (.int .i64 a1.Tree), .d (.slice (rowsF (iRow .i64) a1.Parents)), .d (.str a1.Author), .d (.int .i64 a1.Time)])], vec := [] } : St)) (fun v10_ => v10 = v10_) (fun v10_ e => ?_) ?_
     · subst e
       refine tr_cond (b := v10) (by simp) (fun c19 => ?_) (fun c19 => ?_)
       · rw [if_pos c19] at h2
         refine kr [4] (by simp; rfl) ?_
         have k1 := he2 _ (Option.some.inj h2)
         subst k1
         dsimp only at h0
         cases h0
         exact tr_ret ⟨[], by simp, rfl, by simp⟩
       · rw [if_neg (by rw [c19]; decide)] at h2
         refine tr_skip ?_
         refine lr (by simp; rfl) ?_
         exact ⟨_, hg2 _ (Option.some.inj h2), wk (by simp [weak_iff])⟩
     · refine kc1 ?_
       refine ko [0, 3, 7, 11, 12, 13, 24] 3 (by simp; rfl) ?_
       refine tops_split 24 ((((mget inE a0 x9.ID).getD (⟨0, 0, [], [], 0, [], ByteArray.empty, 0⟩ : api_Object)).Kind) != 1) (by simp) (fun c20 => ?_) (fun c20 => ?_)
       · rw [c20] at hvv10
         refine ko [0, 3, 11, 12, 13, 25, 26, 27] 3 (by simp; rfl) ?_
         refine tops_nil ?_
         cases hvv10
         exact ⟨_, rfl, wk (by simp [weak_iff])⟩
       · rw [c20] at hvv10
         refine ko [0, 3, 11, 12, 13, 25, 26, 27] 3 (by simp; rfl) ?_
         refine tops_nil ?_
         cases hvv10
         exact ⟨_, rfl, wk (by simp [weak_iff])⟩
   · rw [if_neg (by rw [c16]; decide)] at h2
     refine tr_exit ?_
     exact ⟨_, he2 _ (Option.some.inj h2), wk (by simp [weak_iff])⟩
set_option maxHeartbeats 1000000 in
theorem history_Valid_2_cb_ok {a0 : api_Object} {a1 : List (Int × api_Object)} {r : Bool × (List (Int × api_Object))} (h0 : history_Valid_2_cb a0 a1 = some r) : FnOK Tryz.prog 45 [[.d (.mp (mTag 71 1 false true) 9 (rowsF (mRow (iRow .i64) api_Object_row) a1))]] [.agg (api_Object_av a0), .ptr (InO 0) 0] (.d (.bool r.1)) [[.d (.mp (mTag 71 1 false true) 9 (rowsF (mRow (iRow .i64) api_Object_row) r.2))]] := by
 unfold history_Valid_2_cb at h0
 refine fn_ok (nt := 7) (rs := [.tmp 3]) Tryz.func45 rfl Tryz.ntmps45 rfl (by simp) (by decide) rfl fun K => ?_
 refine kr [1, 2] (by simp; rfl) ?_
 refine kc ?_
 refine ko [4, 5] 2 (by simp; rfl) ?_
 replace h0 := bnd h0; obtain ⟨y1, hy1, h0⟩ := h0
 refine kcall [6] [] (history_missing_ok hy1) rfl rfl rfl Tryz.call46 (by simp) (by simp; rfl) ?_
 refine ko [3] 1 (by simp; rfl) ?_
 refine tops_nil ?_
 cases h0
 exact tr_ret ⟨[], by simp, rfl, by simp⟩
set_option maxHeartbeats 1000000 in
theorem slices_IndexFunc_api_Object_at_history_Valid_2_b_ok {a0 : List api_Object} {b10 : List (Int × api_Object)} {r : Int × (List (Int × api_Object))} (h0 : slices_IndexFunc_api_Object_at_history_Valid_2_b a0 b10 = some r) : FnOK Tryz.prog 76 [[.d (.mp (mTag 71 1 false true) 9 (rowsF (mRow (iRow .i64) api_Object_row) b10))]] [.d (.slice (rowsF api_Object_row a0)), .fn 45 [.ptr (InO 0) 0]] (.d (.int .i64 r.1)) [[.d (.mp (mTag 71 1 false true) 9 (rowsF (mRow (iRow .i64) api_Object_row) r.2))]] := by
 unfold slices_IndexFunc_api_Object_at_history_Valid_2_b at h0
 refine fn_ok (nt := 19) (rs := [.tmp 4]) Tryz.func76 rfl Tryz.ntmps76 rfl (by simp) (by decide) rfl fun K => ?_
 refine kr [0, 1] (by simp; rfl) ?_
 refine tr_seq ?_
 refine kr [0, 1, 7, 8] (by simp; rfl) ?_
 replace h0 := bnd h0; obtain ⟨e1, hI1, h0⟩ := h0
 refine tjv (fun v1 : (List (Int × api_Object)) => ({ nt := 19, env := [], box := [(1000000, [.d (.mp (mTag 71 1 false true) 9 (rowsF (mRow (iRow .i64) api_Object_row) v1))])], vec := [] } : St)) (fun v1 => .inl v1 = e1) (fun v1 hI1e _ W1 => ?_) ?_
 · subst hI1e
   dsimp only at h0
   refine tr_wk W1 ?_
   refine kr [4] (by simp; rfl) ?_
   cases h0
   exact tr_ret ⟨[], by simp, rfl, by simp⟩
 · refine tr_block (tr_iter (fun s2 : Int × (List (Int × api_Object)) => ({ nt := 19, env := [(0, .d (.slice (rowsF api_Object_row a0))), (1, .fn 45 [.ptr 1000000 0]), (7, .d (.int .i64 ((a0).length : Int))), (8, .d (.int .i64 s2.1))], box := [(1000000, [.d (.mp (mTag 71 1 false true) 9 (rowsF (mRow (iRow .i64) api_Object_row) s2.2))])], vec := [] } : St)) hI1 (wk (by simp [weak_iff])) fun G1 s2 o1 h1 hg1 he1 => ?_)
   unfold slices_IndexFunc_api_Object_at_history_Valid_2_b_l0 at h1
   refine kr [0, 1, 7, 8, 9] (by simp; rfl) ?_
   refine tr_seq ?_
   refine tr_cond (b := (decide (s2.1 < ((a0).length : Int)))) (by simp) (fun c5 => ?_) (fun c5 => ?_)
   · rw [if_pos c5] at h1
     refine tr_skip ?_
     refine tr_seq ?_
     refine tr_block ?_
     refine kr [0, 1, 5, 7, 8] (by simp; rfl) ?_
     refine kc ?_
     replace h1 := bnd h1; obtain ⟨x3, p3, h1⟩ := h1
     replace p3 := idx_some p3
     have p3' := p3; try simp at p3'
     refine ko [0, 1, 5, 7, 8, 11, 15] 5 (by simp [p3, p3']; rfl) ?_
     replace h1 := bnd h1; obtain ⟨y4, hy4, h1⟩ := h1
     refine kcallV [0, 1, 5, 7, 8, 16] [1000000] [] [] (history_Valid_2_cb_ok hy4) rfl rfl rfl Tryz.call45 (by simp) (by simp; rfl) ?_
     refine tops_nil ?_
     refine tr_cond (b := y4.1) (by simp) (fun c6 => ?_) (fun c6 => ?_)
     · rw [if_pos c6] at h1
       refine kr [4] (by simp; rfl) ?_
       have k1 := he1 _ (Option.some.inj h1)
       subst k1
       dsimp only at h0
       cases h0
       exact tr_ret ⟨[], by simp, rfl, by simp⟩
     · rw [if_neg (by rw [c6]; decide)] at h1
       refine tr_skip ?_
       refine lr (by simp; rfl) ?_
       exact ⟨_, hg1 _ (Option.some.inj h1), wk (by simp [weak_iff])⟩
   · rw [if_neg (by rw [c5]; decide)] at h1
     refine tr_exit ?_
     exact ⟨_, he1 _ (Option.some.inj h1), wk (by simp [weak_iff])⟩
set_option maxHeartbeats 1000000 in
theorem slices_ContainsFunc_api_Object_at_history_Valid_2_b_ok {a0 : List api_Object} {b10 : List (Int × api_Object)} {r : Bool × (List (Int × api_Object))} (h0 : slices_ContainsFunc_api_Object_at_history_Valid_2_b a0 b10 = some r) : FnOK Tryz.prog 40 [[.d (.mp (mTag 71 1 false true) 9 (rowsF (mRow (iRow .i64) api_Object_row) b10))]] [.d (.slice (rowsF api_Object_row a0)), .fn 45 [.ptr (InO 0) 0]] (.d (.bool r.1)) [[.d (.mp (mTag 71 1 false true) 9 (rowsF (mRow (iRow .i64) api_Object_row) r.2))]] := by
 unfold slices_ContainsFunc_api_Object_at_history_Valid_2_b at h0
 refine fn_ok (nt := 9) (rs := [.tmp 4]) Tryz.func40 rfl Tryz.ntmps40 rfl (by simp) (by decide) rfl fun K => ?_
 refine kr [0, 1] (by simp; rfl) ?_
 refine kc ?_
 refine ko [5, 6] 2 (by simp; rfl) ?_
 replace h0 := bnd h0; obtain ⟨y1, hy1, h0⟩ := h0
 refine kcall [7] [1000000] (slices_IndexFunc_api_Object_at_history_Valid_2_b_ok hy1) rfl rfl rfl Tryz.call76 (by simp) (by simp; rfl) ?_
 refine ko [4] 2 (by simp; rfl) ?_
 refine tops_nil ?_
 cases h0
 exact tr_ret ⟨[], by simp, rfl, by simp⟩
set_option maxHeartbeats 1000000 in
theorem slices_IndexFunc_api_RefEvent_at_history_Valid_3_ok {a0 : List api_RefEvent} {r : Int} (h0 : slices_IndexFunc_api_RefEvent_at_history_Valid_3 a0 = some r) : FnOK Tryz.prog 79 [] [.d (.slice (rowsF api_RefEvent_row a0)), .fn 49 []] (.d (.int .i64 r)) [] := by
 unfold slices_IndexFunc_api_RefEvent_at_history_Valid_3 at h0
 refine fn_ok (nt := 19) (rs := [.tmp 4]) Tryz.func79 rfl Tryz.ntmps79 rfl (by simp) (by decide) rfl fun K => ?_
 refine kr [0, 1] (by simp; rfl) ?_
 refine tr_seq ?_
 refine kr [0, 1, 7, 8] (by simp; rfl) ?_
 replace h0 := bnd h0; obtain ⟨e1, hI1, h0⟩ := h0
 refine tjv (fun v1 : Unit => ({ nt := 19, env := [], box := [], vec := [] } : St)) (fun v1 => .inl v1 = e1) (fun v1 hI1e _ W1 => ?_) ?_
 · subst hI1e
   dsimp only at h0
   refine tr_wk W1 ?_
   refine kr [4] (by simp; rfl) ?_
   cases h0
   exact tr_ret ⟨[], by simp, rfl, by simp⟩
 · refine tr_block (tr_iter (fun s2 : Int => ({ nt := 19, env := [(0, .d (.slice (rowsF api_RefEvent_row a0))), (1, .fn 49 []), (7, .d (.int .i64 ((a0).length : Int))), (8, .d (.int .i64 s2))], box := [], vec := [] } : St)) hI1 (wk (by simp [weak_iff])) fun G1 s2 o1 h1 hg1 he1 => ?_)
   unfold slices_IndexFunc_api_RefEvent_at_history_Valid_3_l0 at h1
   refine kr [0, 1, 7, 8, 9] (by simp; rfl) ?_
   refine tr_seq ?_
   refine tr_cond (b := (decide (s2 < ((a0).length : Int)))) (by simp) (fun c5 => ?_) (fun c5 => ?_)
   · rw [if_pos c5] at h1
     refine tr_skip ?_
     refine tr_seq ?_
     refine tr_block ?_
     refine kr [0, 1, 5, 7, 8] (by simp; rfl) ?_
     refine kc ?_
     replace h1 := bnd h1; obtain ⟨x3, p3, h1⟩ := h1
     replace p3 := idx_some p3
     have p3' := p3; try simp at p3'
     refine ko [0, 1, 5, 7, 8, 11, 15] 5 (by simp [p3, p3']; rfl) ?_
     replace h1 := bnd h1; obtain ⟨y4, hy4, h1⟩ := h1
     refine kcallV [0, 1, 5, 7, 8, 16] [] [] [] (history_Valid_3_ok hy4) rfl rfl rfl Tryz.call49 (by simp) (by simp; rfl) ?_
     refine tops_nil ?_
     refine tr_cond (b := y4) (by simp) (fun c6 => ?_) (fun c6 => ?_)
     · rw [if_pos c6] at h1
       refine kr [4] (by simp; rfl) ?_
       have k1 := he1 _ (Option.some.inj h1)
       subst k1
       dsimp only at h0
       cases h0
       exact tr_ret ⟨[], by simp, rfl, by simp⟩
     · rw [if_neg (by rw [c6]; decide)] at h1
       refine tr_skip ?_
       refine lr (by simp; rfl) ?_
       exact ⟨_, hg1 _ (Option.some.inj h1), wk (by simp [weak_iff])⟩
   · rw [if_neg (by rw [c5]; decide)] at h1
     refine tr_exit ?_
     exact ⟨_, he1 _ (Option.some.inj h1), wk (by simp [weak_iff])⟩
set_option maxHeartbeats 1000000 in
theorem slices_ContainsFunc_api_RefEvent_at_history_Valid_3_ok {a0 : List api_RefEvent} {r : Bool} (h0 : slices_ContainsFunc_api_RefEvent_at_history_Valid_3 a0 = some r) : FnOK Tryz.prog 43 [] [.d (.slice (rowsF api_RefEvent_row a0)), .fn 49 []] (.d (.bool r)) [] := by
 unfold slices_ContainsFunc_api_RefEvent_at_history_Valid_3 at h0
 refine fn_ok (nt := 9) (rs := [.tmp 4]) Tryz.func43 rfl Tryz.ntmps43 rfl (by simp) (by decide) rfl fun K => ?_
 refine kr [0, 1] (by simp; rfl) ?_
 refine kc ?_
 refine ko [5, 6] 2 (by simp; rfl) ?_
 replace h0 := bnd h0; obtain ⟨y1, hy1, h0⟩ := h0
 refine kcall [7] [] (slices_IndexFunc_api_RefEvent_at_history_Valid_3_ok hy1) rfl rfl rfl Tryz.call79 (by simp) (by simp; rfl) ?_
 refine ko [4] 2 (by simp; rfl) ?_
 refine tops_nil ?_
 cases h0
 exact tr_ret ⟨[], by simp, rfl, by simp⟩
set_option maxHeartbeats 1000000 in
theorem slices_IsSortedFunc_api_RefEvent_at_history_Valid_4_ok {a0 : List api_RefEvent} {r : Bool} (h0 : slices_IsSortedFunc_api_RefEvent_at_history_Valid_4 a0 = some r) : FnOK Tryz.prog 50 [] [.d (.slice (rowsF api_RefEvent_row a0)), .fn 51 []] (.d (.bool r)) [] := by
 unfold slices_IsSortedFunc_api_RefEvent_at_history_Valid_4 at h0
 refine fn_ok (nt := 25) (rs := [.tmp 4]) Tryz.func50 rfl Tryz.ntmps50 rfl (by simp) (by decide) rfl fun K => ?_
 refine kr [0, 1] (by simp; rfl) ?_
 refine tr_seq ?_
 refine kr [0, 1, 5] (by simp; rfl) ?_
 replace h0 := bnd h0; obtain ⟨e1, hI1, h0⟩ := h0
 refine tjv (fun v1 : Unit => ({ nt := 25, env := [], box := [], vec := [] } : St)) (fun v1 => .inl v1 = e1) (fun v1 hI1e _ W1 => ?_) ?_
 · subst hI1e
   dsimp only at h0
   refine tr_wk W1 ?_
   refine kr [4] (by simp; rfl) ?_
   cases h0
   exact tr_ret ⟨[], by simp, rfl, by simp⟩
 · refine tr_block (tr_iter (fun s2 : Int => ({ nt := 25, env := [(0, .d (.slice (rowsF api_RefEvent_row a0))), (1, .fn 51 []), (5, .d (.int .i64 s2))], box := [], vec := [] } : St)) hI1 (wk (by simp [weak_iff])) fun G1 s2 o1 h1 hg1 he1 => ?_)
   unfold slices_IsSortedFunc_api_RefEvent_at_history_Valid_4_l0 at h1
   refine tr_seq ?_
   refine kr [0, 1, 5, 10] (by simp; rfl) ?_
   refine tr_cond (b := (decide (0 < s2))) (by simp) (fun c5 => ?_) (fun c5 => ?_)
   · rw [if_pos c5] at h1
     refine tr_skip ?_
     refine tr_seq ?_
     refine tr_block ?_
     refine kd [[], [], [], [1, 2], [3], [], [], [6], [5, 7], [8], [0, 4, 9], [10]] [] [] none [] 12 fol (by decide +kernel) (by simp) ?_
     replace h1 := bnd h1; obtain ⟨x3, p17, h1⟩ := h1
     replace p17 := idx_some p17
     have p17' := p17; try simp at p17'
     replace h1 := bnd h1; obtain ⟨x4, p18, h1⟩ := h1
     replace p18 := idx_some p18
     have p18' := p18; try simp at p18'
     refine dr_go 0 2 rfl (by simp (maxSteps := 1000000) [p17, p18, p17', p18']; rfl) ?_
     refine dr_go 2 2 rfl (by simp (maxSteps := 1000000) [p17, p18, p17', p18']; rfl) ?_
     refine dr_go 4 2 rfl (by simp (maxSteps := 1000000) [p17, p18, p17', p18']; rfl) ?_
     refine dr_go 6 2 rfl (by simp (maxSteps := 1000000) [p17, p18, p17', p18']; rfl) ?_
     refine dr_go 8 2 rfl (by simp (maxSteps := 1000000) [p17, p18, p17', p18']; rfl) ?_
     replace h1 := bnd h1; obtain ⟨y5, hy5, h1⟩ := h1
     refine dr_call 10 [] (history_Valid_4_ok hy5) rfl rfl rfl rfl rfl Tryz.call51 (by simp) ?_
     refine dr_go 11 1 rfl (by simp (maxSteps := 1000000); rfl) ?_
     refine dr_end rfl (tops_nil ?_)
     refine tr_cond (b := (decide (y5 < 0))) (by simp) (fun c6 => ?_) (fun c6 => ?_)
     · rw [if_pos c6] at h1
       refine kr [4] (by simp; rfl) ?_
       have k1 := he1 _ (Option.some.inj h1)
       subst k1
       dsimp only at h0
       cases h0
       exact tr_ret ⟨[], by simp, rfl, by simp⟩
     · rw [if_neg (by rw [c6]; decide)] at h1
       refine tr_skip ?_
       refine lr (by simp; rfl) ?_
       exact ⟨_, hg1 _ (Option.some.inj h1), wk (by simp [weak_iff])⟩
   · rw [if_neg (by rw [c5]; decide)] at h1
     refine tr_exit ?_
     exact ⟨_, he1 _ (Option.some.inj h1), wk (by simp [weak_iff])⟩
set_option maxHeartbeats 1000000 in
theorem history_Valid_ok {a0 : api_Repository} {r : Int} (h0 : history_Valid a0 = some r) : FnOK Tryz.prog 25 [] [.agg (api_Repository_av a0)] (.d (.int .i64 r)) [] := by
 unfold history_Valid at h0
 refine fn_ok (nt := 77) (rs := [.tmp 2]) Tryz.func25 rfl Tryz.ntmps25 rfl (by simp) (by decide) rfl fun K => ?_
 refine kr [1] (by simp; rfl) ?_
 refine tr_seq ?_
 replace h0 := bnd h0; obtain ⟨v1, hvv1, h0⟩ := h0
 refine sjv (fun v1_ : Bool => ({ nt := 77, env := [(1, .ptr 1 0), (17, .d (.bool v1_))], box := [(1, [.d (.slice (rowsF api_Object_row a0.Objects)), .d (.slice (rowsF api_RefEvent_row a0.Events))])], vec := [] } : St)) (fun v1_ => v1 = v1_) (fun v1_ e => ?_) ?_
 · subst e
   refine tr_cond (b := v1) (by simp) (fun c3 => ?_) (fun c3 => ?_)
   · rw [if_pos c3] at h0
     refine kr [2] (by simp; rfl) ?_
     cases h0
     exact tr_ret ⟨[], by simp, rfl, by simp⟩
   · rw [if_neg (by rw [c3]; decide)] at h0
     refine tr_skip ?_
     refine tr_seq ?_
     replace h0 := bnd h0; obtain ⟨v2, hvv2, h0⟩ := h0
     refine sjv (fun v2_ : Bool => ({ nt := 77, env := [(1, .ptr 1 0), (25, .d (.bool v2_))], box := [(1, [.d (.slice (rowsF api_Object_row a0.Objects)), .d (.slice (rowsF api_RefEvent_row a0.Events))])], vec := [] } : St)) (fun v2_ => v2 = v2_) (fun v2_ e => ?_) ?_
     · subst e
       refine tr_cond (b := v2) (by simp) (fun c6 => ?_) (fun c6 => ?_)
       · rw [if_pos c6] at h0
         refine kr [2] (by simp; rfl) ?_
         cases h0
         exact tr_ret ⟨[], by simp, rfl, by simp⟩
       · rw [if_neg (by rw [c6]; decide)] at h0
         refine tr_skip ?_
         refine kc ?_
         refine ko [1, 27] 1 (by simp; rfl) ?_
         replace h0 := bnd h0; obtain ⟨y3, hy3, h0⟩ := h0
         refine kcall [1, 28] [] (history_index_ok hy3) rfl rfl rfl Tryz.call38 (by simp) (by simp; rfl) ?_
         refine ko [1, 3, 4] 6 (by simp; rfl) ?_
         refine tops_nil ?_
         refine tr_seq ?_
         refine tr_block ?_
         refine kr [1, 3, 31] (by simp; rfl) ?_
         refine tr_cond (b := (!y3.2)) (by simp) (fun c7 => ?_) (fun c7 => ?_)
         · rw [if_pos c7] at h0
           refine kr [2] (by simp; rfl) ?_
           cases h0
           exact tr_ret ⟨[], by simp, rfl, by simp⟩
         · rw [if_neg (by rw [c7]; decide)] at h0
           replace h0 := bnd h0; obtain ⟨v4, hvv4, h0⟩ := h0
           refine sjv (fun v4_ : Bool × (List (Int × api_Object)) => ({ nt := 77, env := [(1, .ptr 1 0), (3, .ptr 3 0), (34, .d (.bool v4_.1))], box := [(1, [.d (.slice (rowsF api_Object_row a0.Objects)), .d (.slice (rowsF api_RefEvent_row a0.Events))]), (3, [.d (.mp (mTag 71 1 false true) 9 (rowsF (mRow (iRow .i64) api_Object_row) v4_.2))])], vec := [] } : St)) (fun v4_ => v4 = v4_) (fun v4_ e => ?_) ?_
           · subst e
             refine tr_cond (b := v4.1) (by simp) (fun c10 => ?_) (fun c10 => ?_)
             · rw [if_pos c10] at h0
               refine kr [2] (by simp; rfl) ?_
               cases h0
               exact tr_ret ⟨[], by simp, rfl, by simp⟩
             · rw [if_neg (by rw [c10]; decide)] at h0
               refine kc ?_
               refine ko [1, 45] 1 (by simp; rfl) ?_
               replace h0 := bnd h0; obtain ⟨y5, hy5, h0⟩ := h0
               refine kcall [1, 46] [] (history_cycle_ok hy5) rfl rfl rfl Tryz.call48 (by simp) (by simp; rfl) ?_
               refine ko [1, 44] 1 (by simp; rfl) ?_
               refine tops_nil ?_
               refine tr_cond (b := y5) (by simp) (fun c11 => ?_) (fun c11 => ?_)
               · rw [if_pos c11] at h0
                 refine kr [2] (by simp; rfl) ?_
                 cases h0
                 exact tr_ret ⟨[], by simp, rfl, by simp⟩
               · rw [if_neg (by rw [c11]; decide)] at h0
                 refine kc ?_
                 refine ko [1, 49] 2 (by simp; rfl) ?_
                 replace h0 := bnd h0; obtain ⟨y6, hy6, h0⟩ := h0
                 refine kcall [1, 50] [] (slices_ContainsFunc_api_RefEvent_at_history_Valid_3_ok hy6) rfl rfl rfl Tryz.call43 (by simp) (by simp; rfl) ?_
                 refine ko [1, 47] 1 (by simp; rfl) ?_
                 refine tops_nil ?_
                 refine tr_cond (b := y6) (by simp) (fun c12 => ?_) (fun c12 => ?_)
                 · rw [if_pos c12] at h0
                   refine kr [2] (by simp; rfl) ?_
                   cases h0
                   exact tr_ret ⟨[], by simp, rfl, by simp⟩
                 · rw [if_neg (by rw [c12]; decide)] at h0
                   refine kc ?_
                   refine ko [1, 53] 2 (by simp; rfl) ?_
                   replace h0 := bnd h0; obtain ⟨y7, hy7, h0⟩ := h0
                   refine kcall [1, 54] [] (slices_IsSortedFunc_api_RefEvent_at_history_Valid_4_ok hy7) rfl rfl rfl Tryz.call50 (by simp) (by simp; rfl) ?_
                   refine ko [1, 51] 2 (by simp; rfl) ?_
                   refine tops_nil ?_
                   refine tr_cond (b := (!y7)) (by simp) (fun c13 => ?_) (fun c13 => ?_)
                   · rw [if_pos c13] at h0
                     refine kr [2] (by simp; rfl) ?_
                     cases h0
                     exact tr_ret ⟨[], by simp, rfl, by simp⟩
                   · rw [if_neg (by rw [c13]; decide)] at h0
                     refine tr_skip ?_
                     refine kr [1, 5] (by simp; rfl) ?_
                     refine tr_seq ?_
                     refine kr [5, 58, 59, 60] (by simp; rfl) ?_
                     replace h0 := bnd h0; obtain ⟨e1, hI1, h0⟩ := h0
                     refine tjv (fun v8 : Unit => ({ nt := 77, env := [], box := [], vec := [] } : St)) (fun v8 => .inl v8 = e1) (fun v8 hI1e _ W1 => ?_) ?_
                     · subst hI1e
                       dsimp only at h0
                       refine tr_wk W1 ?_
                       refine kr [2] (by simp; rfl) ?_
                       cases h0
                       exact tr_ret ⟨[], by simp, rfl, by simp⟩
                     · refine tr_block (tr_iter (fun s9 : Int × (List (ByteArray × Bool)) => ({ nt := 77, env := [(5, .vec 56), (58, .d (.slice (rowsF api_RefEvent_row a0.Events))), (59, .d (.int .i64 ((a0.Events).length : Int))), (60, .d (.int .i64 s9.1))], box := [], vec := [(56, ⟨mTag 87 1 false false, 2, rowsF (mRow sRow bRow) s9.2⟩)] } : St)) hI1 (wk (by simp [weak_iff])) fun G1 s9 o1 h1 hg1 he1 => ?_)
                       unfold history_Valid_l0 at h1
                       refine kr [5, 58, 59, 60, 61] (by simp; rfl) ?_
                       refine tr_seq ?_
                       refine tr_cond (b := (decide (s9.1 < ((a0.Events).length : Int)))) (by simp) (fun c20 => ?_) (fun c20 => ?_)
                       · rw [if_pos c20] at h1
                         refine tr_skip ?_
                         refine tr_seq ?_
                         refine tr_block ?_
                         replace h1 := bnd h1; obtain ⟨x10, p3, h1⟩ := h1
                         replace p3 := idx_some p3
                         have p3' := p3; try simp at p3'
                         refine kr [5, 7, 58, 59, 60] (by simp [p3, p3']; rfl) ?_
                         refine sjv (fun v11 : (List (ByteArray × Bool)) => ({ nt := 77, env := [(5, .vec 56), (58, .d (.slice (rowsF api_RefEvent_row a0.Events))), (59, .d (.int .i64 ((a0.Events).length : Int))), (60, .d (.int .i64 s9.1))], box := [], vec := [(56, ⟨mTag 87 1 false false, 2, rowsF (mRow sRow bRow) v11⟩)] } : St)) (fun v11 => history_Valid_j1 s9 v11 = some o1) (fun v11 h1 => ?_) ?_
                         · unfold history_Valid_j1 at h1
                           refine kr [5, 58, 59, 60, 75] (by simp; rfl) ?_
                           refine tr_cond (b := (decide (32 < ((v11).length : Int)))) (by simp) (fun c22 => ?_) (fun c22 => ?_)
                           · rw [if_pos c22] at h1
                             refine kr [2] (by simp; rfl) ?_
                             have k1 := he1 _ (Option.some.inj h1)
                             subst k1
                             dsimp only at h0
                             cases h0
                             exact tr_ret ⟨[], by simp, rfl, by simp⟩
                           · rw [if_neg (by rw [c22]; decide)] at h1
                             refine tr_skip ?_
                             refine lr (by simp; rfl) ?_
                             exact ⟨_, hg1 _ (Option.some.inj h1), wk (by simp [weak_iff])⟩
                         · refine kr [5, 7, 58, 59, 60, 66] (by simp; rfl) ?_
                           refine tr_cond (b := (x10.Kind == 1)) (by simp) (fun c23 => ?_) (fun c23 => ?_)
                           · rw [if_pos c23] at h1
                             refine lr (by simp; rfl) ?_
                             exact ⟨_, h1, wk (by simp [weak_iff])⟩
                           · rw [if_neg (by rw [c23]; decide)] at h1
                             refine lr (by simp; rfl) ?_
                             exact ⟨_, h1, wk (by simp [weak_iff])⟩
                       · rw [if_neg (by rw [c20]; decide)] at h1
                         refine tr_exit ?_
                         exact ⟨_, he1 _ (Option.some.inj h1), wk (by simp [weak_iff])⟩
           · refine kc1 ?_
             refine ko [1, 3, 36, 37] 3 (by simp; rfl) ?_
             replace hvv4 := bnd hvv4; obtain ⟨y14, hy14, hvv4⟩ := hvv4
             refine kcall [1, 3, 38] [3] (slices_ContainsFunc_api_Object_at_history_Valid_2_b_ok hy14) rfl rfl rfl Tryz.call40 (by simp) (by simp; rfl) ?_
             refine ko [1, 3, 39] 1 (by simp; rfl) ?_
             refine tops_split 39 y14.1 (by simp) (fun c24 => ?_) (fun c24 => ?_)
             · rw [if_pos c24] at hvv4
               refine kskip 3 [] (by kernel_rfl) ?_
               refine ko [1, 3, 34] 2 (by simp; rfl) ?_
               refine tops_nil ?_
               cases hvv4
               exact ⟨_, rfl, wk (by simp [weak_iff])⟩
             · rw [if_neg (by rw [c24]; decide)] at hvv4
               refine ko [1, 3, 39, 40, 41] 2 (by simp; rfl) ?_
               replace hvv4 := bnd hvv4; obtain ⟨y15, hy15, hvv4⟩ := hvv4
               refine kcall [1, 3, 39, 42] [] (history_nameless_ok hy15) rfl rfl rfl Tryz.call47 (by simp) (by simp; rfl) ?_
               refine ko [1, 3, 34] 2 (by simp; rfl) ?_
               refine tops_nil ?_
               cases hvv4
               exact ⟨_, rfl, wk (by simp [weak_iff])⟩
     · refine kc1 ?_
       refine ko [1, 19] 2 (by simp; rfl) ?_
       replace hvv2 := bnd hvv2; obtain ⟨y16, hy16, hvv2⟩ := hvv2
       refine kcall [1, 20] [] (slices_ContainsFunc_api_Object_at_history_Valid_1_ok hy16) rfl rfl rfl Tryz.call40 (by simp) (by simp; rfl) ?_
       refine ko [1, 21] 1 (by simp; rfl) ?_
       refine tops_split 21 y16 (by simp) (fun c25 => ?_) (fun c25 => ?_)
       · rw [if_pos c25] at hvv2
         refine kskip 3 [] (by kernel_rfl) ?_
         refine ko [1, 25] 1 (by simp; rfl) ?_
         refine tops_nil ?_
         cases hvv2
         exact ⟨_, rfl, wk (by simp [weak_iff])⟩
       · rw [if_neg (by rw [c25]; decide)] at hvv2
         refine ko [1, 21, 23] 2 (by simp; rfl) ?_
         replace hvv2 := bnd hvv2; obtain ⟨y17, hy17, hvv2⟩ := hvv2
         refine kcall [1, 21, 24] [] (slices_ContainsFunc_api_RefEvent_at_history_wrong_ok hy17) rfl rfl rfl Tryz.call43 (by simp) (by simp; rfl) ?_
         refine ko [1, 25] 1 (by simp; rfl) ?_
         refine tops_nil ?_
         cases hvv2
         exact ⟨_, rfl, wk (by simp [weak_iff])⟩
 · refine kc1 ?_
   refine ko [1, 12] 5 (by simp; rfl) ?_
   refine tops_split 12 (decide (400 < ((a0.Objects).length : Int))) (by simp) (fun c26 => ?_) (fun c26 => ?_)
   · rw [c26] at hvv1
     refine kskip 4 [] (by kernel_rfl) ?_
     refine ko [1, 17] 1 (by simp; rfl) ?_
     refine tops_nil ?_
     cases hvv1
     exact ⟨_, rfl, wk (by simp [weak_iff])⟩
   · rw [c26] at hvv1
     refine ko [1, 17] 5 (by simp; rfl) ?_
     refine tops_nil ?_
     cases hvv1
     exact ⟨_, rfl, wk (by simp [weak_iff])⟩
set_option maxHeartbeats 1000000 in
theorem history_refs_ok {a0 : api_Repository} {a1 : Int} {r : (List (ByteArray × Int))} (h0 : history_refs a0 a1 = some r) : FnOK Tryz.prog 91 [] [.agg (api_Repository_av a0), .d (.int .i64 a1)] (.d (.mp (mTag 134 1 false false) 2 (rowsF (mRow sRow (iRow .i64)) r))) [] := by
 unfold history_refs at h0
 refine fn_ok (nt := 33) (rs := [.tmp 4]) Tryz.func91 rfl Tryz.ntmps91 rfl (by simp) (by decide) rfl fun K => ?_
 refine kr [1, 2] (by simp; rfl) ?_
 refine kr [1, 2, 5] (by simp; rfl) ?_
 refine tr_seq ?_
 refine kr [1, 5, 10, 11, 12] (by simp; rfl) ?_
 replace h0 := bnd h0; obtain ⟨e1, hI1, h0⟩ := h0
 refine tjv (fun v1 : (List (ByteArray × Int)) => ({ nt := 33, env := [(5, .vec 8)], box := [], vec := [(8, ⟨mTag 134 1 false false, 2, rowsF (mRow sRow (iRow .i64)) v1⟩)] } : St)) (fun v1 => v1 = e1) (fun v1 hI1e _ W1 => ?_) ?_
 · subst hI1e
   refine tr_wk W1 ?_
   refine kr [4] (by simp; rfl) ?_
   cases h0
   exact tr_ret ⟨[8], by simp, rfl, by simp⟩
 · refine tr_block (tr_iter (fun s2 : Int × (List (ByteArray × Int)) => ({ nt := 33, env := [(1, .d (.int .i64 a1)), (5, .vec 8), (10, .d (.slice (rowsF api_RefEvent_row a0.Events))), (11, .d (.int .i64 ((a0.Events).length : Int))), (12, .d (.int .i64 s2.1))], box := [], vec := [(8, ⟨mTag 134 1 false false, 2, rowsF (mRow sRow (iRow .i64)) s2.2⟩)] } : St)) hI1 (wk (by simp [weak_iff])) fun G1 s2 o1 h1 hg1 he1 => ?_)
   unfold history_refs_l0 at h1
   refine kr [1, 5, 10, 11, 12, 13] (by simp; rfl) ?_
   refine tr_seq ?_
   refine tr_cond (b := (decide (s2.1 < ((a0.Events).length : Int)))) (by simp) (fun c7 => ?_) (fun c7 => ?_)
   · rw [if_pos c7] at h1
     refine tr_skip ?_
     refine tr_seq ?_
     refine tr_block ?_
     replace h1 := bnd h1; obtain ⟨x3, p3, h1⟩ := h1
     replace p3 := idx_some p3
     have p3' := p3; try simp at p3'
     refine kr [1, 5, 7, 10, 11, 12] (by simp [p3, p3']; rfl) ?_
     refine tr_seq ?_
     refine kr [1, 5, 7, 10, 11, 12, 19] (by simp; rfl) ?_
     refine tr_cond (b := (decide (a1 < x3.Time))) (by simp) (fun c8 => ?_) (fun c8 => ?_)
     · rw [if_pos c8] at h1
       refine tr_exit ?_
       exact ⟨_, he1 _ (Option.some.inj h1), wk (by simp [weak_iff])⟩
     · rw [if_neg (by rw [c8]; decide)] at h1
       refine tr_skip ?_
       refine kr [1, 5, 7, 10, 11, 12, 22] (by simp; rfl) ?_
       refine tr_cond (b := (x3.Kind == 1)) (by simp) (fun c9 => ?_) (fun c9 => ?_)
       · rw [if_pos c9] at h1
         refine lr (by simp; rfl) ?_
         refine lr (by simp; rfl) ?_
         exact ⟨_, hg1 _ (Option.some.inj h1), wk (by simp [weak_iff])⟩
       · rw [if_neg (by rw [c9]; decide)] at h1
         refine lr (by simp; rfl) ?_
         refine lr (by simp; rfl) ?_
         exact ⟨_, hg1 _ (Option.some.inj h1), wk (by simp [weak_iff])⟩
   · rw [if_neg (by rw [c7]; decide)] at h1
     refine tr_exit ?_
     exact ⟨_, he1 _ (Option.some.inj h1), wk (by simp [weak_iff])⟩
set_option maxHeartbeats 1000000 in
theorem walk_index_1_cro_ok {a0 : api_Item} {a1 : List (Int × api_Object)} {r : Bool} (h0 : walk_index_1_cro a0 a1 = some r) : FnOK Tryz.prog 55 [] [.agg (api_Item_av a0), .cptr [.mp (mTag 71 1 false true) 9 (rowsF (mRow (iRow .i64) api_Object_row) a1)] 0] (.d (.bool r)) [] := by
 unfold walk_index_1_cro at h0
 refine fn_ok (nt := 18) (rs := [.tmp 3]) Tryz.func55 rfl Tryz.ntmps55 rfl (by simp) (by decide) rfl fun K => ?_
 refine kr [1, 2] (by simp; rfl) ?_
 refine kr [4] (by simp; rfl) ?_
 replace h0 := bnd h0; obtain ⟨v1, hvv1, h0⟩ := h0
 refine sjv (fun v1_ : Bool => ({ nt := 18, env := [(3, .d (.bool v1_))], box := [], vec := [] } : St)) (fun v1_ => v1 = v1_) (fun v1_ e => ?_) ?_
 · subst e
   cases h0
   exact tr_ret ⟨[], by simp, rfl, by simp⟩
 · refine kc1 ?_
   refine ko [4, 12] 4 (by simp; rfl) ?_
   refine tops_split 12 ((((mget inE a1 a0.ID).getD (⟨0, 0, [], [], 0, [], ByteArray.empty, 0⟩ : api_Object)).Kind) == 2) (by simp) (fun c3 => ?_) (fun c3 => ?_)
   · rw [c3] at hvv1
     refine ko [3] 6 (by simp; rfl) ?_
     refine tops_nil ?_
     cases hvv1
     exact ⟨_, rfl, wk (by simp [weak_iff])⟩
   · rw [c3] at hvv1
     refine kskip 4 [] (by kernel_rfl) ?_
     refine ko [3] 2 (by simp; rfl) ?_
     refine tops_nil ?_
     cases hvv1
     exact ⟨_, rfl, wk (by simp [weak_iff])⟩
set_option maxHeartbeats 1000000 in
theorem walk_before_1_crorororo_ok {a0 : Int} {a1 : List (Int × Int)} {a2 : Int} {a3 : List (Int × api_Object)} {a4 : Int} {r : Bool} (h0 : walk_before_1_crorororo a0 a1 a2 a3 a4 = some r) : FnOK Tryz.prog 60 [] [.d (.int .i64 a0), .cptr [.mp (mTag 73 1 false false) 2 (rowsF (mRow (iRow .i64) (iRow .i64)) a1)] 0, .cptr [.int .i64 a2] 0, .cptr [.mp (mTag 71 1 false true) 9 (rowsF (mRow (iRow .i64) api_Object_row) a3)] 0, .cptr [.int .i64 a4] 0] (.d (.bool r)) [] := by
 unfold walk_before_1_crorororo at h0
 refine fn_ok (nt := 20) (rs := [.tmp 6]) Tryz.func60 rfl Tryz.ntmps60 rfl (by simp) (by decide) rfl fun K => ?_
 refine kr [0, 1, 2, 3, 4] (by simp; rfl) ?_
 replace h0 := bnd h0; obtain ⟨v1, hvv1, h0⟩ := h0
 refine sjv (fun v1_ : Bool => ({ nt := 20, env := [(6, .d (.bool v1_))], box := [], vec := [] } : St)) (fun v1_ => v1 = v1_) (fun v1_ e => ?_) ?_
 · subst e
   cases h0
   exact tr_ret ⟨[], by simp, rfl, by simp⟩
 · refine kc1 ?_
   refine ko [0, 3, 4, 12] 6 (by simp; rfl) ?_
   refine tops_split 12 (decide (a2 < ((mget inE a1 a0).getD 0))) (by simp) (fun c3 => ?_) (fun c3 => ?_)
   · rw [c3] at hvv1
     refine kskip 6 [] (by kernel_rfl) ?_
     refine ko [6] 2 (by simp; rfl) ?_
     refine tops_nil ?_
     cases hvv1
     exact ⟨_, rfl, wk (by simp [weak_iff])⟩
   · rw [c3] at hvv1
     refine ko [6] 8 (by simp; rfl) ?_
     refine tops_nil ?_
     cases hvv1
     exact ⟨_, rfl, wk (by simp [weak_iff])⟩
set_option maxHeartbeats 1000000 in
theorem slices_IndexFunc_int_at_walk_before_1_rorororo_ok {a0 : List Int} {b10 : List (Int × Int)} {b11 : Int} {b12 : List (Int × api_Object)} {b13 : Int} {r : Int} (h0 : slices_IndexFunc_int_at_walk_before_1_rorororo a0 b10 b11 b12 b13 = some r) : FnOK Tryz.prog 94 [] [.d (.slice (rowsF (iRow .i64) a0)), .fn 60 [.cptr [.mp (mTag 73 1 false false) 2 (rowsF (mRow (iRow .i64) (iRow .i64)) b10)] 0, .cptr [.int .i64 b11] 0, .cptr [.mp (mTag 71 1 false true) 9 (rowsF (mRow (iRow .i64) api_Object_row) b12)] 0, .cptr [.int .i64 b13] 0]] (.d (.int .i64 r)) [] := by
 unfold slices_IndexFunc_int_at_walk_before_1_rorororo at h0
 refine fn_ok (nt := 19) (rs := [.tmp 4]) Tryz.func94 rfl Tryz.ntmps94 rfl (by simp) (by decide) rfl fun K => ?_
 refine kr [0, 1] (by simp; rfl) ?_
 refine tr_seq ?_
 refine kr [0, 1, 7, 8] (by simp; rfl) ?_
 replace h0 := bnd h0; obtain ⟨e1, hI1, h0⟩ := h0
 refine tjv (fun v1 : Unit => ({ nt := 19, env := [], box := [], vec := [] } : St)) (fun v1 => .inl v1 = e1) (fun v1 hI1e _ W1 => ?_) ?_
 · subst hI1e
   dsimp only at h0
   refine tr_wk W1 ?_
   refine kr [4] (by simp; rfl) ?_
   cases h0
   exact tr_ret ⟨[], by simp, rfl, by simp⟩
 · refine tr_block (tr_iter (fun s2 : Int => ({ nt := 19, env := [(0, .d (.slice (rowsF (iRow .i64) a0))), (1, .fn 60 [.cptr [.mp (mTag 73 1 false false) 2 (rowsF (mRow (iRow .i64) (iRow .i64)) b10)] 0, .cptr [.int .i64 b11] 0, .cptr [.mp (mTag 71 1 false true) 9 (rowsF (mRow (iRow .i64) api_Object_row) b12)] 0, .cptr [.int .i64 b13] 0]), (7, .d (.int .i64 ((a0).length : Int))), (8, .d (.int .i64 s2))], box := [], vec := [] } : St)) hI1 (wk (by simp [weak_iff])) fun G1 s2 o1 h1 hg1 he1 => ?_)
   unfold slices_IndexFunc_int_at_walk_before_1_rorororo_l0 at h1
   refine kr [0, 1, 7, 8, 9] (by simp; rfl) ?_
   refine tr_seq ?_
   refine tr_cond (b := (decide (s2 < ((a0).length : Int)))) (by simp) (fun c5 => ?_) (fun c5 => ?_)
   · rw [if_pos c5] at h1
     refine tr_skip ?_
     refine tr_seq ?_
     refine tr_block ?_
     refine kr [0, 1, 5, 7, 8] (by simp; rfl) ?_
     refine kc ?_
     replace h1 := bnd h1; obtain ⟨x3, p3, h1⟩ := h1
     replace p3 := idx_some p3
     have p3' := p3; try simp at p3'
     refine ko [0, 1, 5, 7, 8, 11, 15] 5 (by simp [p3, p3']; rfl) ?_
     replace h1 := bnd h1; obtain ⟨y4, hy4, h1⟩ := h1
     refine kcallV [0, 1, 5, 7, 8, 16] [] [] [] (walk_before_1_crorororo_ok hy4) rfl rfl rfl Tryz.call60 (by simp) (by simp; rfl) ?_
     refine tops_nil ?_
     refine tr_cond (b := y4) (by simp) (fun c6 => ?_) (fun c6 => ?_)
     · rw [if_pos c6] at h1
       refine kr [4] (by simp; rfl) ?_
       have k1 := he1 _ (Option.some.inj h1)
       subst k1
       dsimp only at h0
       cases h0
       exact tr_ret ⟨[], by simp, rfl, by simp⟩
     · rw [if_neg (by rw [c6]; decide)] at h1
       refine tr_skip ?_
       refine lr (by simp; rfl) ?_
       exact ⟨_, hg1 _ (Option.some.inj h1), wk (by simp [weak_iff])⟩
   · rw [if_neg (by rw [c5]; decide)] at h1
     refine tr_exit ?_
     exact ⟨_, he1 _ (Option.some.inj h1), wk (by simp [weak_iff])⟩
set_option maxHeartbeats 1000000 in
theorem slices_DeleteFunc_int_eat0_at_walk_before_1_rorororo_own0_ok {a0 : List Int} {b10 : List (Int × Int)} {b11 : Int} {b12 : List (Int × api_Object)} {b13 : Int} {r : (List Int)} (h0 : slices_DeleteFunc_int_eat0_at_walk_before_1_rorororo_own0 a0 b10 b11 b12 b13 = some r) : FnOKv Tryz.prog 59 [] [⟨3, 1, rowsF (iRow .i64) a0⟩] [.vec (InV 0), .fn 60 [.cptr [.mp (mTag 73 1 false false) 2 (rowsF (mRow (iRow .i64) (iRow .i64)) b10)] 0, .cptr [.int .i64 b11] 0, .cptr [.mp (mTag 71 1 false true) 9 (rowsF (mRow (iRow .i64) api_Object_row) b12)] 0, .cptr [.int .i64 b13] 0]] (.vec (InV 0)) [] [⟨3, 1, rowsF (iRow .i64) r⟩] := by
 unfold slices_DeleteFunc_int_eat0_at_walk_before_1_rorororo_own0 at h0
 refine fn_okv (nt := 42) (rs := [.tmp 4]) Tryz.func59 rfl Tryz.ntmps59 rfl (by simp) (by decide) rfl fun K => ?_
 refine kr [0, 1] (by simp; rfl) ?_
 refine kc ?_
 refine ko [0, 1, 8, 9] 2 (by simp; rfl) ?_
 replace h0 := bnd h0; obtain ⟨y1, hy1, h0⟩ := h0
 refine kcallv [0, 1, 10] (slices_IndexFunc_int_at_walk_before_1_rorororo_ok hy1) rfl rfl rfl Tryz.call94 (by simp) (by simp; rfl) ?_
 refine ko [0, 1, 5] 1 (by simp; rfl) ?_
 refine tops_nil ?_
 refine tr_seq ?_
 refine kr [0, 1, 5, 12] (by simp; rfl) ?_
 refine tr_cond (b := (y1 == (-1))) (by simp) (fun c1 => ?_) (fun c1 => ?_)
 · rw [if_pos c1] at h0
   refine kr [4] (by simp; rfl) ?_
   cases h0
   exact tr_ret ⟨[], [2000000], by simp, by simp, by simp, by simp, by simp⟩
 · rw [if_neg (by rw [c1]; decide)] at h0
   refine tr_skip ?_
   refine tr_seq ?_
   refine kr [0, 1, 5, 6] (by simp; rfl) ?_
   replace h0 := bnd h0; obtain ⟨e1, hI1, h0⟩ := h0
   refine tjv (fun v2 : Int × (List Int) => ({ nt := 42, env := [(0, .vec 2000000), (5, .d (.int .i64 v2.1))], box := [], vec := [(2000000, ⟨3, 1, rowsF (iRow .i64) v2.2⟩)] } : St)) (fun v2 => v2 = e1) (fun v2 hI1e _ W1 => ?_) ?_
   · subst hI1e
     refine tr_wk W1 ?_
     refine kc ?_
     replace h0 := bnd h0; obtain ⟨_, p9, h0⟩ := h0
     replace p9 := ck_some p9
     have p9' := p9; try simp at p9'
     refine ko [0, 5, 38] 3 (by simp [p9, p9']; rfl) ?_
     replace h0 := bnd h0; obtain ⟨l3, p10, h0⟩ := h0
     replace p10 := Option.some.inj p10
     refine tops_clear (n := 2000000) (z := 1) (lo := (Int.toNat v2.1)) (k := ((v2.2).length - (Int.toNat v2.1))) (zs := (iRow .i64) 0) (rows' := rowsF (iRow .i64) l3) rfl rfl rfl (by simp) (by simp; rfl) rfl Tryz.underlying22 Tryz.zeroValue3 rfl rfl rfl (by decide) (by simp; omega) (clear1 (by decide)) (clearD (by rfl)) (by rw [← p10]; simp [rowsF, List.map_take]) ?_
     refine tops_nil ?_
     replace h0 := bnd h0; obtain ⟨_, p11, h0⟩ := h0
     replace p11 := ck_some p11
     have p11' := p11; try simp at p11'
     refine kr [4] (by simp [p11, p11']; rfl) ?_
     refine tr_wk (wk_cut (z := 1) (k := (Int.toNat v2.1)) 4 2000000 2000000 (by simp) (by simp; rfl) (by simp)) ?_
     cases h0
     exact tr_ret ⟨[], [2000000], by simp, by simp, by simp, by simp, by simp⟩
   · refine tr_block (tr_iter (fun s4 : Int × Int × (List Int) => ({ nt := 42, env := [(0, .vec 2000000), (1, .fn 60 [.cptr [.mp (mTag 73 1 false false) 2 (rowsF (mRow (iRow .i64) (iRow .i64)) b10)] 0, .cptr [.int .i64 b11] 0, .cptr [.mp (mTag 71 1 false true) 9 (rowsF (mRow (iRow .i64) api_Object_row) b12)] 0, .cptr [.int .i64 b13] 0]), (5, .d (.int .i64 s4.1)), (6, .d (.int .i64 s4.2.1))], box := [], vec := [(2000000, ⟨3, 1, rowsF (iRow .i64) s4.2.2⟩)] } : St)) hI1 (wk (by simp [weak_iff])) fun G1 s4 o1 h1 hg1 he1 => ?_)
     unfold slices_DeleteFunc_int_eat0_at_walk_before_1_rorororo_own0_l0 at h1
     refine tr_seq ?_
     refine kr [0, 1, 5, 6, 19] (by simp; rfl) ?_
     refine tr_cond (b := (decide (s4.2.1 < ((s4.2.2).length : Int)))) (by simp) (fun c6 => ?_) (fun c6 => ?_)
     · rw [if_pos c6] at h1
       refine tr_skip ?_
       refine tr_seq ?_
       refine tr_block ?_
       replace h1 := bnd h1; obtain ⟨_, p12, h1⟩ := h1
       replace p12 := ck_some p12
       have p12' := p12; try simp at p12'
       have p12o : s4.2.1 < (((s4.2.2)).length : Int) := by omega
       replace h1 := bnd h1; obtain ⟨x5, p13, h1⟩ := h1
       replace p13 := idx_some p13
       have p13' := p13; try simp at p13'
       refine kr [0, 1, 5, 6, 7] (by simp [-getElem?_pos, List.getElem?_cons_zero, List.getElem?_cons_succ, p12, p12o, p13, p12', p13']; rfl) ?_
       refine kc ?_
       refine ko [0, 1, 5, 6, 7, 26, 27] 2 (by simp; rfl) ?_
       replace h1 := bnd h1; obtain ⟨y6, hy6, h1⟩ := h1
       refine kcallV [0, 1, 5, 6, 7, 28] [] [] [] (walk_before_1_crorororo_ok hy6) rfl rfl rfl Tryz.call60 (by simp) (by simp; rfl) ?_
       refine ko [0, 1, 5, 6, 7, 29] 1 (by simp; rfl) ?_
       refine tops_nil ?_
       refine tr_cond (b := (!y6)) (by simp) (fun c7 => ?_) (fun c7 => ?_)
       · rw [if_pos c7] at h1
         replace h1 := bnd h1; obtain ⟨_, p14, h1⟩ := h1
         replace p14 := ck_some p14
         have p14' := p14; try simp at p14'
         have p14o : s4.1 < (((s4.2.2)).length : Int) := by omega
         replace h1 := bnd h1; obtain ⟨x7, p15, h1⟩ := h1
         replace p15 := idx_some p15
         have p15' := p15; try simp at p15'
         refine kr [0, 1, 5, 6] (by simp [-getElem?_pos, List.getElem?_cons_zero, List.getElem?_cons_succ, p14, p14o, p15, (List.getElem?_eq_some_iff.1 p15.2).1, p14', p15']; rfl) ?_
         refine lr (by simp; rfl) ?_
         refine lr (by simp; rfl) ?_
         exact ⟨_, hg1 _ (Option.some.inj h1), wk (by simp [weak_iff])⟩
       · rw [if_neg (by rw [c7]; decide)] at h1
         refine tr_skip ?_
         refine lr (by simp; rfl) ?_
         exact ⟨_, hg1 _ (Option.some.inj h1), wk (by simp [weak_iff])⟩
     · rw [if_neg (by rw [c6]; decide)] at h1
       refine tr_exit ?_
       exact ⟨_, he1 _ (Option.some.inj h1), wk (by simp [weak_iff])⟩
set_option maxHeartbeats 1000000 in
theorem slices_IndexFunc_api_Item_at_walk_index_1_ro_ok {a0 : List api_Item} {b10 : List (Int × api_Object)} {r : Int} (h0 : slices_IndexFunc_api_Item_at_walk_index_1_ro a0 b10 = some r) : FnOK Tryz.prog 88 [] [.d (.slice (rowsF api_Item_row a0)), .fn 55 [.cptr [.mp (mTag 71 1 false true) 9 (rowsF (mRow (iRow .i64) api_Object_row) b10)] 0]] (.d (.int .i64 r)) [] := by
 unfold slices_IndexFunc_api_Item_at_walk_index_1_ro at h0
 refine fn_ok (nt := 19) (rs := [.tmp 4]) Tryz.func88 rfl Tryz.ntmps88 rfl (by simp) (by decide) rfl fun K => ?_
 refine kr [0, 1] (by simp; rfl) ?_
 refine tr_seq ?_
 refine kr [0, 1, 7, 8] (by simp; rfl) ?_
 replace h0 := bnd h0; obtain ⟨e1, hI1, h0⟩ := h0
 refine tjv (fun v1 : Unit => ({ nt := 19, env := [], box := [], vec := [] } : St)) (fun v1 => .inl v1 = e1) (fun v1 hI1e _ W1 => ?_) ?_
 · subst hI1e
   dsimp only at h0
   refine tr_wk W1 ?_
   refine kr [4] (by simp; rfl) ?_
   cases h0
   exact tr_ret ⟨[], by simp, rfl, by simp⟩
 · refine tr_block (tr_iter (fun s2 : Int => ({ nt := 19, env := [(0, .d (.slice (rowsF api_Item_row a0))), (1, .fn 55 [.cptr [.mp (mTag 71 1 false true) 9 (rowsF (mRow (iRow .i64) api_Object_row) b10)] 0]), (7, .d (.int .i64 ((a0).length : Int))), (8, .d (.int .i64 s2))], box := [], vec := [] } : St)) hI1 (wk (by simp [weak_iff])) fun G1 s2 o1 h1 hg1 he1 => ?_)
   unfold slices_IndexFunc_api_Item_at_walk_index_1_ro_l0 at h1
   refine kr [0, 1, 7, 8, 9] (by simp; rfl) ?_
   refine tr_seq ?_
   refine tr_cond (b := (decide (s2 < ((a0).length : Int)))) (by simp) (fun c5 => ?_) (fun c5 => ?_)
   · rw [if_pos c5] at h1
     refine tr_skip ?_
     refine tr_seq ?_
     refine tr_block ?_
     refine kr [0, 1, 5, 7, 8] (by simp; rfl) ?_
     refine kc ?_
     replace h1 := bnd h1; obtain ⟨x3, p3, h1⟩ := h1
     replace p3 := idx_some p3
     have p3' := p3; try simp at p3'
     refine ko [0, 1, 5, 7, 8, 11, 15] 5 (by simp [p3, p3']; rfl) ?_
     replace h1 := bnd h1; obtain ⟨y4, hy4, h1⟩ := h1
     refine kcallV [0, 1, 5, 7, 8, 16] [] [] [] (walk_index_1_cro_ok hy4) rfl rfl rfl Tryz.call55 (by simp) (by simp; rfl) ?_
     refine tops_nil ?_
     refine tr_cond (b := y4) (by simp) (fun c6 => ?_) (fun c6 => ?_)
     · rw [if_pos c6] at h1
       refine kr [4] (by simp; rfl) ?_
       have k1 := he1 _ (Option.some.inj h1)
       subst k1
       dsimp only at h0
       cases h0
       exact tr_ret ⟨[], by simp, rfl, by simp⟩
     · rw [if_neg (by rw [c6]; decide)] at h1
       refine tr_skip ?_
       refine lr (by simp; rfl) ?_
       exact ⟨_, hg1 _ (Option.some.inj h1), wk (by simp [weak_iff])⟩
   · rw [if_neg (by rw [c5]; decide)] at h1
     refine tr_exit ?_
     exact ⟨_, he1 _ (Option.some.inj h1), wk (by simp [weak_iff])⟩
set_option maxHeartbeats 1000000 in
theorem slices_DeleteFunc_api_Item_eat0_at_walk_index_1_ro_own0_ok {a0 : List api_Item} {b10 : List (Int × api_Object)} {r : (List api_Item)} (h0 : slices_DeleteFunc_api_Item_eat0_at_walk_index_1_ro_own0 a0 b10 = some r) : FnOKv Tryz.prog 53 [] [⟨62, 2, rowsF api_Item_row a0⟩] [.vec (InV 0), .fn 55 [.cptr [.mp (mTag 71 1 false true) 9 (rowsF (mRow (iRow .i64) api_Object_row) b10)] 0]] (.vec (InV 0)) [] [⟨62, 2, rowsF api_Item_row r⟩] := by
 unfold slices_DeleteFunc_api_Item_eat0_at_walk_index_1_ro_own0 at h0
 refine fn_okv (nt := 42) (rs := [.tmp 4]) Tryz.func53 rfl Tryz.ntmps53 rfl (by simp) (by decide) rfl fun K => ?_
 refine kr [0, 1] (by simp; rfl) ?_
 refine kc ?_
 refine ko [0, 1, 8, 9] 2 (by simp; rfl) ?_
 replace h0 := bnd h0; obtain ⟨y1, hy1, h0⟩ := h0
 refine kcallv [0, 1, 10] (slices_IndexFunc_api_Item_at_walk_index_1_ro_ok hy1) rfl rfl rfl Tryz.call88 (by simp) (by simp; rfl) ?_
 refine ko [0, 1, 5] 1 (by simp; rfl) ?_
 refine tops_nil ?_
 refine tr_seq ?_
 refine kr [0, 1, 5, 12] (by simp; rfl) ?_
 refine tr_cond (b := (y1 == (-1))) (by simp) (fun c1 => ?_) (fun c1 => ?_)
 · rw [if_pos c1] at h0
   refine kr [4] (by simp; rfl) ?_
   cases h0
   exact tr_ret ⟨[], [2000000], by simp, by simp, by simp, by simp, by simp⟩
 · rw [if_neg (by rw [c1]; decide)] at h0
   refine tr_skip ?_
   refine tr_seq ?_
   refine kr [0, 1, 5, 6] (by simp; rfl) ?_
   replace h0 := bnd h0; obtain ⟨e1, hI1, h0⟩ := h0
   refine tjv (fun v2 : Int × (List api_Item) => ({ nt := 42, env := [(0, .vec 2000000), (5, .d (.int .i64 v2.1))], box := [], vec := [(2000000, ⟨62, 2, rowsF api_Item_row v2.2⟩)] } : St)) (fun v2 => v2 = e1) (fun v2 hI1e _ W1 => ?_) ?_
   · subst hI1e
     refine tr_wk W1 ?_
     refine kc ?_
     replace h0 := bnd h0; obtain ⟨_, p9, h0⟩ := h0
     replace p9 := ck_some p9
     have p9' := p9; try simp at p9'
     refine ko [0, 5, 38] 3 (by simp [p9, p9']; rfl) ?_
     replace h0 := bnd h0; obtain ⟨l3, p10, h0⟩ := h0
     replace p10 := Option.some.inj p10
     refine tops_clear (n := 2000000) (z := 2) (lo := (Int.toNat v2.1)) (k := ((v2.2).length - (Int.toNat v2.1))) (zs := api_Item_row (⟨ByteArray.empty, 0⟩ : api_Item)) (rows' := rowsF api_Item_row l3) rfl rfl rfl (by simp) (by simp; rfl) rfl Tryz.underlying41 Tryz.zeroValue62 rfl rfl rfl (by decide) (by simp; omega) (clear1 (by decide)) (clearD (by rfl)) (by rw [← p10]; simp [rowsF, List.map_take]) ?_
     refine tops_nil ?_
     replace h0 := bnd h0; obtain ⟨_, p11, h0⟩ := h0
     replace p11 := ck_some p11
     have p11' := p11; try simp at p11'
     refine kr [4] (by simp [p11, p11']; rfl) ?_
     refine tr_wk (wk_cut (z := 2) (k := (Int.toNat v2.1)) 4 2000000 2000000 (by simp) (by simp; rfl) (by simp)) ?_
     cases h0
     exact tr_ret ⟨[], [2000000], by simp, by simp, by simp, by simp, by simp⟩
   · refine tr_block (tr_iter (fun s4 : Int × Int × (List api_Item) => ({ nt := 42, env := [(0, .vec 2000000), (1, .fn 55 [.cptr [.mp (mTag 71 1 false true) 9 (rowsF (mRow (iRow .i64) api_Object_row) b10)] 0]), (5, .d (.int .i64 s4.1)), (6, .d (.int .i64 s4.2.1))], box := [], vec := [(2000000, ⟨62, 2, rowsF api_Item_row s4.2.2⟩)] } : St)) hI1 (wk (by simp [weak_iff])) fun G1 s4 o1 h1 hg1 he1 => ?_)
     unfold slices_DeleteFunc_api_Item_eat0_at_walk_index_1_ro_own0_l0 at h1
     refine tr_seq ?_
     refine kr [0, 1, 5, 6, 19] (by simp; rfl) ?_
     refine tr_cond (b := (decide (s4.2.1 < ((s4.2.2).length : Int)))) (by simp) (fun c6 => ?_) (fun c6 => ?_)
     · rw [if_pos c6] at h1
       refine tr_skip ?_
       refine tr_seq ?_
       refine tr_block ?_
       replace h1 := bnd h1; obtain ⟨_, p12, h1⟩ := h1
       replace p12 := ck_some p12
       have p12' := p12; try simp at p12'
       have p12o : s4.2.1 < (((s4.2.2)).length : Int) := by omega
       replace h1 := bnd h1; obtain ⟨x5, p13, h1⟩ := h1
       replace p13 := idx_some p13
       have p13' := p13; try simp at p13'
       refine kr [0, 1, 5, 6, 7] (by simp [-getElem?_pos, List.getElem?_cons_zero, List.getElem?_cons_succ, p12, p12o, p13, p12', p13']; rfl) ?_
       refine kc ?_
       refine ko [0, 1, 5, 6, 7, 26, 27] 2 (by simp; rfl) ?_
       replace h1 := bnd h1; obtain ⟨y6, hy6, h1⟩ := h1
       refine kcallV [0, 1, 5, 6, 7, 28] [] [] [] (walk_index_1_cro_ok hy6) rfl rfl rfl Tryz.call55 (by simp) (by simp; rfl) ?_
       refine ko [0, 1, 5, 6, 7, 29] 1 (by simp; rfl) ?_
       refine tops_nil ?_
       refine tr_cond (b := (!y6)) (by simp) (fun c7 => ?_) (fun c7 => ?_)
       · rw [if_pos c7] at h1
         replace h1 := bnd h1; obtain ⟨_, p14, h1⟩ := h1
         replace p14 := ck_some p14
         have p14' := p14; try simp at p14'
         have p14o : s4.1 < (((s4.2.2)).length : Int) := by omega
         replace h1 := bnd h1; obtain ⟨x7, p15, h1⟩ := h1
         replace p15 := idx_some p15
         have p15' := p15; try simp at p15'
         refine kr [0, 1, 5, 6] (by simp [-getElem?_pos, List.getElem?_cons_zero, List.getElem?_cons_succ, p14, p14o, p15, (List.getElem?_eq_some_iff.1 p15.2).1, p14', p15']; rfl) ?_
         refine lr (by simp; rfl) ?_
         refine lr (by simp; rfl) ?_
         exact ⟨_, hg1 _ (Option.some.inj h1), wk (by simp [weak_iff])⟩
       · rw [if_neg (by rw [c7]; decide)] at h1
         refine tr_skip ?_
         refine lr (by simp; rfl) ?_
         exact ⟨_, hg1 _ (Option.some.inj h1), wk (by simp [weak_iff])⟩
     · rw [if_neg (by rw [c6]; decide)] at h1
       refine tr_exit ?_
       exact ⟨_, he1 _ (Option.some.inj h1), wk (by simp [weak_iff])⟩
end Go.Vl
