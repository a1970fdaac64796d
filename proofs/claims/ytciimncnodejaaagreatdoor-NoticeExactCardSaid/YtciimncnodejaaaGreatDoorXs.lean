/- The given program's structs. Conditions: none. -/
import Derived.Test.YtciimncnodejaaaGreatDoorVmV
set_option linter.unusedSimpArgs false
set_option linter.unusedVariables false
namespace Go.Vl
open Go
structure api_Calendar where
  Day : Int
  From : Int
  To : Int
  Week : Int
  Holidays : List Int
deriving Inhabited
@[simp] def api_Calendar_row (x : api_Calendar) : List D := [.int .i64 x.Day, .int .i64 x.From, .int .i64 x.To, .int .i64 x.Week, .slice (rowsF (iRow .i64) x.Holidays)]
@[simp] def api_Calendar_av (x : api_Calendar) : List AV := [.d (.int .i64 x.Day), .d (.int .i64 x.From), .d (.int .i64 x.To), .d (.int .i64 x.Week), .d (.slice (rowsF (iRow .i64) x.Holidays))]
structure api_Member where
  Time : Int
  Kind : Int
  Principal : Int
  Group : Int
deriving Inhabited
@[simp] def api_Member_row (x : api_Member) : List D := [.int .i64 x.Time, .int .i64 x.Kind, .int .i64 x.Principal, .int .i64 x.Group]
@[simp] def api_Member_av (x : api_Member) : List AV := [.d (.int .i64 x.Time), .d (.int .i64 x.Kind), .d (.int .i64 x.Principal), .d (.int .i64 x.Group)]
structure api_Directory where
  Kinds : List Int
  Events : List api_Member
deriving Inhabited
@[simp] def api_Directory_row (x : api_Directory) : List D := [.slice (rowsF (iRow .i64) x.Kinds), .slice (rowsF api_Member_row x.Events)]
@[simp] def api_Directory_av (x : api_Directory) : List AV := [.d (.slice (rowsF (iRow .i64) x.Kinds)), .d (.slice (rowsF api_Member_row x.Events))]
structure api_Steward where
  Time : Int
  Subject : Int
  Steward : Int
deriving Inhabited
@[simp] def api_Steward_row (x : api_Steward) : List D := [.int .i64 x.Time, .int .i64 x.Subject, .int .i64 x.Steward]
@[simp] def api_Steward_av (x : api_Steward) : List AV := [.d (.int .i64 x.Time), .d (.int .i64 x.Subject), .d (.int .i64 x.Steward)]
structure api_Case where
  Time : Int
  Kind : Int
  Case : Int
  Level : Int
  Owner : Int
deriving Inhabited
@[simp] def api_Case_row (x : api_Case) : List D := [.int .i64 x.Time, .int .i64 x.Kind, .int .i64 x.Case, .int .i64 x.Level, .int .i64 x.Owner]
@[simp] def api_Case_av (x : api_Case) : List AV := [.d (.int .i64 x.Time), .d (.int .i64 x.Kind), .d (.int .i64 x.Case), .d (.int .i64 x.Level), .d (.int .i64 x.Owner)]
structure api_Notice where
  Time : Int
  Case : Int
  To : Int
  Step : Int
deriving Inhabited
@[simp] def api_Notice_row (x : api_Notice) : List D := [.int .i64 x.Time, .int .i64 x.Case, .int .i64 x.To, .int .i64 x.Step]
@[simp] def api_Notice_av (x : api_Notice) : List AV := [.d (.int .i64 x.Time), .d (.int .i64 x.Case), .d (.int .i64 x.To), .d (.int .i64 x.Step)]
structure make_Tape where
  L : List Int
  at_ : Int
deriving Inhabited
@[simp] def make_Tape_row (x : make_Tape) : List D := [.slice (rowsF (iRow .i64) x.L), .int .i64 x.at_]
@[simp] def make_Tape_av (x : make_Tape) : List AV := [.d (.slice (rowsF (iRow .i64) x.L)), .d (.int .i64 x.at_)]
end Go.Vl
