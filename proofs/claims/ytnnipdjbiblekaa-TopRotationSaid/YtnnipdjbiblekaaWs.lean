/- The given program's structs. Conditions: none. -/
import Derived.Test.YtnnipdjbiblekaaVmV
set_option linter.unusedSimpArgs false
set_option linter.unusedVariables false
namespace Go.Vl
open Go
structure api_Consumer where
  Pool : Int
  Dual : Bool
  Live : Bool
deriving Inhabited
@[simp] def api_Consumer_row (x : api_Consumer) : List D := [.int .i64 x.Pool, .bool x.Dual, .bool x.Live]
@[simp] def api_Consumer_av (x : api_Consumer) : List AV := [.d (.int .i64 x.Pool), .d (.bool x.Dual), .d (.bool x.Live)]
structure api_Fleet where
  Slots : Int
  Consumers : List api_Consumer
deriving Inhabited
@[simp] def api_Fleet_row (x : api_Fleet) : List D := [.int .i64 x.Slots, .slice (rowsF api_Consumer_row x.Consumers)]
@[simp] def api_Fleet_av (x : api_Fleet) : List AV := [.d (.int .i64 x.Slots), .d (.slice (rowsF api_Consumer_row x.Consumers))]
structure api_Unit where
  Up : Bool
  Stored : Int
  Used : Int
deriving Inhabited
@[simp] def api_Unit_row (x : api_Unit) : List D := [.bool x.Up, .int .i64 x.Stored, .int .i64 x.Used]
@[simp] def api_Unit_av (x : api_Unit) : List AV := [.d (.bool x.Up), .d (.int .i64 x.Stored), .d (.int .i64 x.Used)]
structure api_Rotation where
  Known : Int
  Valid : Int
  Units : List api_Unit
deriving Inhabited
@[simp] def api_Rotation_row (x : api_Rotation) : List D := [.int .i64 x.Known, .int .i64 x.Valid, .slice (rowsF api_Unit_row x.Units)]
@[simp] def api_Rotation_av (x : api_Rotation) : List AV := [.d (.int .i64 x.Known), .d (.int .i64 x.Valid), .d (.slice (rowsF api_Unit_row x.Units))]
structure api_Hindrance where
  Pool : Int
deriving Inhabited
@[simp] def api_Hindrance_row (x : api_Hindrance) : List D := [.int .i64 x.Pool]
@[simp] def api_Hindrance_av (x : api_Hindrance) : List AV := [.d (.int .i64 x.Pool)]
structure api_Step where
  Kind : Int
  Unit : Int
deriving Inhabited
@[simp] def api_Step_row (x : api_Step) : List D := [.int .i64 x.Kind, .int .i64 x.Unit]
@[simp] def api_Step_av (x : api_Step) : List AV := [.d (.int .i64 x.Kind), .d (.int .i64 x.Unit)]
structure plan_planner where
  fleet : api_Fleet
  state : api_Rotation
  out : List api_Step
deriving Inhabited
@[simp] def plan_planner_row (x : plan_planner) : List D := [.int .i64 x.fleet.Slots, .slice (rowsF api_Consumer_row x.fleet.Consumers), .int .i64 x.state.Known, .int .i64 x.state.Valid, .slice (rowsF api_Unit_row x.state.Units), .slice (rowsF api_Step_row x.out)]
@[simp] def plan_planner_av (x : plan_planner) : List AV := [.d (.int .i64 x.fleet.Slots), .d (.slice (rowsF api_Consumer_row x.fleet.Consumers)), .d (.int .i64 x.state.Known), .d (.int .i64 x.state.Valid), .d (.slice (rowsF api_Unit_row x.state.Units)), .d (.slice (rowsF api_Step_row x.out))]
structure make_Tape where
  L : List Int
  at_ : Int
deriving Inhabited
@[simp] def make_Tape_row (x : make_Tape) : List D := [.slice (rowsF (iRow .i64) x.L), .int .i64 x.at_]
@[simp] def make_Tape_av (x : make_Tape) : List AV := [.d (.slice (rowsF (iRow .i64) x.L)), .d (.int .i64 x.at_)]
structure search_found where
  Rotation : api_Rotation
  far : Int
  step : api_Step
  before : Int
deriving Inhabited
@[simp] def search_found_row (x : search_found) : List D := [.int .i64 x.Rotation.Known, .int .i64 x.Rotation.Valid, .slice (rowsF api_Unit_row x.Rotation.Units), .int .i64 x.far, .int .i64 x.step.Kind, .int .i64 x.step.Unit, .int .i64 x.before]
@[simp] def search_found_av (x : search_found) : List AV := [.d (.int .i64 x.Rotation.Known), .d (.int .i64 x.Rotation.Valid), .d (.slice (rowsF api_Unit_row x.Rotation.Units)), .d (.int .i64 x.far), .d (.int .i64 x.step.Kind), .d (.int .i64 x.step.Unit), .d (.int .i64 x.before)]
structure api_Attempt where
  Step : api_Step
  Outcome : Int
  There : Bool
deriving Inhabited
@[simp] def api_Attempt_row (x : api_Attempt) : List D := [.int .i64 x.Step.Kind, .int .i64 x.Step.Unit, .int .i64 x.Outcome, .bool x.There]
@[simp] def api_Attempt_av (x : api_Attempt) : List AV := [.d (.int .i64 x.Step.Kind), .d (.int .i64 x.Step.Unit), .d (.int .i64 x.Outcome), .d (.bool x.There)]
structure runner_runner where
  fleet : api_Fleet
  state : api_Rotation
  outcomes : List Int
  tried : List api_Attempt
  states : List api_Rotation
deriving Inhabited
@[simp] def runner_runner_row (x : runner_runner) : List D := [.int .i64 x.fleet.Slots, .slice (rowsF api_Consumer_row x.fleet.Consumers), .int .i64 x.state.Known, .int .i64 x.state.Valid, .slice (rowsF api_Unit_row x.state.Units), .slice (rowsF (iRow .i64) x.outcomes), .slice (rowsF api_Attempt_row x.tried), .slice (rowsF api_Rotation_row x.states)]
@[simp] def runner_runner_av (x : runner_runner) : List AV := [.d (.int .i64 x.fleet.Slots), .d (.slice (rowsF api_Consumer_row x.fleet.Consumers)), .d (.int .i64 x.state.Known), .d (.int .i64 x.state.Valid), .d (.slice (rowsF api_Unit_row x.state.Units)), .d (.slice (rowsF (iRow .i64) x.outcomes)), .d (.slice (rowsF api_Attempt_row x.tried)), .d (.slice (rowsF api_Rotation_row x.states))]
end Go.Vl
