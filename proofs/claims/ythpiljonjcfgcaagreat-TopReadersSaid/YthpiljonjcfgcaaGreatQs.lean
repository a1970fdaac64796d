/- The given program's structs. Conditions: none. -/
import Derived.Test.YthpiljonjcfgcaaGreatVmV
set_option linter.unusedSimpArgs false
set_option linter.unusedVariables false
namespace Go.Vl
open Go
structure api_Member where
 Time:Int
 Kind:Int
 Principal:Int
 Group:Int
deriving Inhabited
@[simp] def api_Member_row (x:api_Member):List D:=[.int .i64 x.Time,.int .i64 x.Kind,.int .i64 x.Principal,.int .i64 x.Group]
@[simp] def api_Member_av (x:api_Member):List AV:=[.d (.int .i64 x.Time),.d (.int .i64 x.Kind),.d (.int .i64 x.Principal),.d (.int .i64 x.Group)]
structure api_Directory where
 Kinds:List Int
 Events:List api_Member
deriving Inhabited
@[simp] def api_Directory_row (x:api_Directory):List D:=[.slice (rowsF (iRow .i64) x.Kinds),.slice (rowsF api_Member_row x.Events)]
@[simp] def api_Directory_av (x:api_Directory):List AV:=[.d (.slice (rowsF (iRow .i64) x.Kinds)),.d (.slice (rowsF api_Member_row x.Events))]
structure api_Access where
 Time:Int
 Kind:Int
 Place:Int
 Principal:Int
 Until:Int
 Content:Int
 From:Int
deriving Inhabited
@[simp] def api_Access_row (x:api_Access):List D:=[.int .i64 x.Time,.int .i64 x.Kind,.int .i64 x.Place,.int .i64 x.Principal,.int .i64 x.Until,.int .i64 x.Content,.int .i64 x.From]
@[simp] def api_Access_av (x:api_Access):List AV:=[.d (.int .i64 x.Time),.d (.int .i64 x.Kind),.d (.int .i64 x.Place),.d (.int .i64 x.Principal),.d (.int .i64 x.Until),.d (.int .i64 x.Content),.d (.int .i64 x.From)]
structure api_Estate where
 Places:Int
 Events:List api_Access
deriving Inhabited
@[simp] def api_Estate_row (x:api_Estate):List D:=[.int .i64 x.Places,.slice (rowsF api_Access_row x.Events)]
@[simp] def api_Estate_av (x:api_Estate):List AV:=[.d (.int .i64 x.Places),.d (.slice (rowsF api_Access_row x.Events))]
structure api_Exposure where
 Principal:Int
 Time:Int
deriving Inhabited
@[simp] def api_Exposure_row (x:api_Exposure):List D:=[.int .i64 x.Principal,.int .i64 x.Time]
@[simp] def api_Exposure_av (x:api_Exposure):List AV:=[.d (.int .i64 x.Principal),.d (.int .i64 x.Time)]
structure zT where
 L:List Int
 at_:Int
deriving Inhabited
@[simp] def zTr (x:zT):List D:=[.slice (rowsF (iRow .i64) x.L),.int .i64 x.at_]
@[simp] def zTa (x:zT):List AV:=[.d (.slice (rowsF (iRow .i64) x.L)),.d (.int .i64 x.at_)]
structure api_Reading where
 Place:Int
 Time:Int
 Link:Int
 Grant:Int
 Chain:List Int
deriving Inhabited
@[simp] def api_Reading_row (x:api_Reading):List D:=[.int .i64 x.Place,.int .i64 x.Time,.int .i64 x.Link,.int .i64 x.Grant,.slice (rowsF (iRow .i64) x.Chain)]
@[simp] def api_Reading_av (x:api_Reading):List AV:=[.d (.int .i64 x.Place),.d (.int .i64 x.Time),.d (.int .i64 x.Link),.d (.int .i64 x.Grant),.d (.slice (rowsF (iRow .i64) x.Chain))]
structure api_Leak where
 Way:List Int
 Reading:api_Reading
deriving Inhabited
@[simp] def api_Leak_row (x:api_Leak):List D:=[.slice (rowsF (iRow .i64) x.Way),.int .i64 x.Reading.Place,.int .i64 x.Reading.Time,.int .i64 x.Reading.Link,.int .i64 x.Reading.Grant,.slice (rowsF (iRow .i64) x.Reading.Chain)]
@[simp] def api_Leak_av (x:api_Leak):List AV:=[.d (.slice (rowsF (iRow .i64) x.Way)),.d (.int .i64 x.Reading.Place),.d (.int .i64 x.Reading.Time),.d (.int .i64 x.Reading.Link),.d (.int .i64 x.Reading.Grant),.d (.slice (rowsF (iRow .i64) x.Reading.Chain))]
end Go.Vl
