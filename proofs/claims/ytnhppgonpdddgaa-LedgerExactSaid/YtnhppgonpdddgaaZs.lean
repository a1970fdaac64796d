/- The given program's structs. Conditions: none. -/
import Derived.Test.YtnhppgonpdddgaaVmV
set_option linter.unusedSimpArgs false
set_option linter.unusedVariables false
namespace Go.Vl
open Go
structure make_Tape where
  L : List Int
  at_ : Int
deriving Inhabited
@[simp] def make_Tape_row (x : make_Tape) : List D := [.slice (rowsF (iRow .i64) x.L), .int .i64 x.at_]
@[simp] def make_Tape_av (x : make_Tape) : List AV := [.d (.slice (rowsF (iRow .i64) x.L)), .d (.int .i64 x.at_)]
structure api_Record where
  Known : Int
  Since : Int
  Subject : Int
  Value : Int
deriving Inhabited
@[simp] def api_Record_row (x : api_Record) : List D := [.int .i64 x.Known, .int .i64 x.Since, .int .i64 x.Subject, .int .i64 x.Value]
@[simp] def api_Record_av (x : api_Record) : List AV := [.d (.int .i64 x.Known), .d (.int .i64 x.Since), .d (.int .i64 x.Subject), .d (.int .i64 x.Value)]
structure api_Belief where
  Value : Int
  Record : Int
deriving Inhabited
@[simp] def api_Belief_row (x : api_Belief) : List D := [.int .i64 x.Value, .int .i64 x.Record]
@[simp] def api_Belief_av (x : api_Belief) : List AV := [.d (.int .i64 x.Value), .d (.int .i64 x.Record)]
end Go.Vl
