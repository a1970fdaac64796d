/- The given program's structs. Conditions: none. -/
import Derived.Test.YtjnflahicimmlaaGreatDoorVmV
set_option linter.unusedSimpArgs false
set_option linter.unusedVariables false
namespace Go.Vl
open Go
structure make_Tape where
 L : List Int
 at_ : Int
deriving Inhabited
@[simp] def make_Tape_row (x : make_Tape) : List D := [.slice (rowsF (iRow .i64) x.L), .int .i64 x.at_]
@[simp] def make_Tape_av (x : make_Tape) : List AV := [.d (.slice (rowsF (iRow .i64) x.L)), .d (.int .i64 x.at_)]
structure api_RefEvent where
 Kind : Int
 Name : ByteArray
 Commit : Int
 Time : Int
deriving Inhabited
@[simp] def api_RefEvent_row (x : api_RefEvent) : List D := [.int .i64 x.Kind, .str x.Name, .int .i64 x.Commit, .int .i64 x.Time]
@[simp] def api_RefEvent_av (x : api_RefEvent) : List AV := [.d (.int .i64 x.Kind), .d (.str x.Name), .d (.int .i64 x.Commit), .d (.int .i64 x.Time)]
structure api_Item where
 Name : ByteArray
 ID : Int
deriving Inhabited
@[simp] def api_Item_row (x : api_Item) : List D := [.str x.Name, .int .i64 x.ID]
@[simp] def api_Item_av (x : api_Item) : List AV := [.d (.str x.Name), .d (.int .i64 x.ID)]
structure api_Object where
 ID : Int
 Kind : Int
 Data : List Int
 Items : List api_Item
 Tree : Int
 Parents : List Int
 Author : ByteArray
 Time : Int
deriving Inhabited
@[simp] def api_Object_row (x : api_Object) : List D := [.int .i64 x.ID, .int .i64 x.Kind, .slice (rowsF (iRow .u8) x.Data), .slice (rowsF api_Item_row x.Items), .int .i64 x.Tree, .slice (rowsF (iRow .i64) x.Parents), .str x.Author, .int .i64 x.Time]
@[simp] def api_Object_av (x : api_Object) : List AV := [.d (.int .i64 x.ID), .d (.int .i64 x.Kind), .d (.slice (rowsF (iRow .u8) x.Data)), .d (.slice (rowsF api_Item_row x.Items)), .d (.int .i64 x.Tree), .d (.slice (rowsF (iRow .i64) x.Parents)), .d (.str x.Author), .d (.int .i64 x.Time)]
structure api_Repository where
 Objects : List api_Object
 Events : List api_RefEvent
deriving Inhabited
@[simp] def api_Repository_row (x : api_Repository) : List D := [.slice (rowsF api_Object_row x.Objects), .slice (rowsF api_RefEvent_row x.Events)]
@[simp] def api_Repository_av (x : api_Repository) : List AV := [.d (.slice (rowsF api_Object_row x.Objects)), .d (.slice (rowsF api_RefEvent_row x.Events))]
structure walk_walker where
 objects : List (Int × api_Object)
 left : Int
 out : List api_Item
deriving Inhabited
@[simp] def walk_walker_row (x : walk_walker) : List D := [.mp (mTag 71 1 false true) 9 (rowsF (mRow (iRow .i64) api_Object_row) x.objects), .int .i64 x.left, .slice (rowsF api_Item_row x.out)]
@[simp] def walk_walker_av (x : walk_walker) : List AV := [.d (.mp (mTag 71 1 false true) 9 (rowsF (mRow (iRow .i64) api_Object_row) x.objects)), .d (.int .i64 x.left), .d (.slice (rowsF api_Item_row x.out))]
structure api_Place where
 Source : Int
 Path : ByteArray
 Time : Int
deriving Inhabited
@[simp] def api_Place_row (x : api_Place) : List D := [.int .i64 x.Source, .str x.Path, .int .i64 x.Time]
@[simp] def api_Place_av (x : api_Place) : List AV := [.d (.int .i64 x.Source), .d (.str x.Path), .d (.int .i64 x.Time)]
structure api_Content where
 Data : List Int
 Places : List api_Place
deriving Inhabited
@[simp] def api_Content_row (x : api_Content) : List D := [.slice (rowsF (iRow .u8) x.Data), .slice (rowsF api_Place_row x.Places)]
@[simp] def api_Content_av (x : api_Content) : List AV := [.d (.slice (rowsF (iRow .u8) x.Data)), .d (.slice (rowsF api_Place_row x.Places))]
end Go.Vl
