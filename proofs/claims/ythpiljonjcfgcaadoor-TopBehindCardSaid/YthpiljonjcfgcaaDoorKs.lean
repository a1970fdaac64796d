/- The given program's structs. Conditions: none. -/
import Derived.Test.YthpiljonjcfgcaaDoorVmV
set_option linter.unusedSimpArgs false
set_option linter.unusedVariables false
namespace Go.Vl
open Go
structure api_Member where
 Time:Int
 Kind:Int
 Principal:Int
 Group:Int
deriving Inhabited
@[simp] def api_Member_row (x:api_Member):List D:=[.int .i64 x.Time,.int .i64 x.Kind,.int .i64 x.Principal,.int .i64 x.Group]
@[simp] def api_Member_av (x:api_Member):List AV:=[.d (.int .i64 x.Time),.d (.int .i64 x.Kind),.d (.int .i64 x.Principal),.d (.int .i64 x.Group)]
structure api_Directory where
 Kinds:List Int
 Events:List api_Member
deriving Inhabited
@[simp] def api_Directory_row (x:api_Directory):List D:=[.slice (rowsF (iRow .i64) x.Kinds),.slice (rowsF api_Member_row x.Events)]
@[simp] def api_Directory_av (x:api_Directory):List AV:=[.d (.slice (rowsF (iRow .i64) x.Kinds)),.d (.slice (rowsF api_Member_row x.Events))]
structure api_Access where
 Time:Int
 Kind:Int
 Place:Int
 Principal:Int
 Until:Int
 Content:Int
 From:Int
deriving Inhabited
@[simp] def api_Access_row (x:api_Access):List D:=[.int .i64 x.Time,.int .i64 x.Kind,.int .i64 x.Place,.int .i64 x.Principal,.int .i64 x.Until,.int .i64 x.Content,.int .i64 x.From]
@[simp] def api_Access_av (x:api_Access):List AV:=[.d (.int .i64 x.Time),.d (.int .i64 x.Kind),.d (.int .i64 x.Place),.d (.int .i64 x.Principal),.d (.int .i64 x.Until),.d (.int .i64 x.Content),.d (.int .i64 x.From)]
structure api_Estate where
 Places:Int
 Events:List api_Access
deriving Inhabited
@[simp] def api_Estate_row (x:api_Estate):List D:=[.int .i64 x.Places,.slice (rowsF api_Access_row x.Events)]
@[simp] def api_Estate_av (x:api_Estate):List AV:=[.d (.int .i64 x.Places),.d (.slice (rowsF api_Access_row x.Events))]
structure api_Exposure where
 Principal:Int
 Time:Int
deriving Inhabited
@[simp] def api_Exposure_row (x:api_Exposure):List D:=[.int .i64 x.Principal,.int .i64 x.Time]
@[simp] def api_Exposure_av (x:api_Exposure):List AV:=[.d (.int .i64 x.Principal),.d (.int .i64 x.Time)]
structure zT where
 L:List Int
 at_:Int
deriving Inhabited
@[simp] def zTr (x:zT):List D:=[.slice (rowsF (iRow .i64) x.L),.int .i64 x.at_]
@[simp] def zTa (x:zT):List AV:=[.d (.slice (rowsF (iRow .i64) x.L)),.d (.int .i64 x.at_)]
structure api_Grant where
 Credential:Int
 Resource:Int
 Right:Int
deriving Inhabited
@[simp] def api_Grant_row (x:api_Grant):List D:=[.int .i64 x.Credential,.int .i64 x.Resource,.int .i64 x.Right]
@[simp] def api_Grant_av (x:api_Grant):List AV:=[.d (.int .i64 x.Credential),.d (.int .i64 x.Resource),.d (.int .i64 x.Right)]
structure api_Store where
 Resource:Int
 Credential:Int
deriving Inhabited
@[simp] def api_Store_row (x:api_Store):List D:=[.int .i64 x.Resource,.int .i64 x.Credential]
@[simp] def api_Store_av (x:api_Store):List AV:=[.d (.int .i64 x.Resource),.d (.int .i64 x.Credential)]
structure api_Mint where
 From:Int
 To:Int
deriving Inhabited
@[simp] def api_Mint_row (x:api_Mint):List D:=[.int .i64 x.From,.int .i64 x.To]
@[simp] def api_Mint_av (x:api_Mint):List AV:=[.d (.int .i64 x.From),.d (.int .i64 x.To)]
structure api_Rights where
 Credentials:Int
 Resources:Int
 Grants:List api_Grant
 Stores:List api_Store
 Mints:List api_Mint
deriving Inhabited
@[simp] def api_Rights_row (x:api_Rights):List D:=[.int .i64 x.Credentials,.int .i64 x.Resources,.slice (rowsF api_Grant_row x.Grants),.slice (rowsF api_Store_row x.Stores),.slice (rowsF api_Mint_row x.Mints)]
@[simp] def api_Rights_av (x:api_Rights):List AV:=[.d (.int .i64 x.Credentials),.d (.int .i64 x.Resources),.d (.slice (rowsF api_Grant_row x.Grants)),.d (.slice (rowsF api_Store_row x.Stores)),.d (.slice (rowsF api_Mint_row x.Mints))]
structure api_Link where
 Kind:Int
 Grant:Int
 Store:Int
 Mint:Int
deriving Inhabited
@[simp] def api_Link_row (x:api_Link):List D:=[.int .i64 x.Kind,.int .i64 x.Grant,.int .i64 x.Store,.int .i64 x.Mint]
@[simp] def api_Link_av (x:api_Link):List AV:=[.d (.int .i64 x.Kind),.d (.int .i64 x.Grant),.d (.int .i64 x.Store),.d (.int .i64 x.Mint)]
structure api_Severity where
 Level:Int
 Worth:Int
 Audience:Int
 Score:Int
deriving Inhabited
@[simp] def api_Severity_row (x:api_Severity):List D:=[.int .i64 x.Level,.int .i64 x.Worth,.int .i64 x.Audience,.int .i64 x.Score]
@[simp] def api_Severity_av (x:api_Severity):List AV:=[.d (.int .i64 x.Level),.d (.int .i64 x.Worth),.d (.int .i64 x.Audience),.d (.int .i64 x.Score)]
end Go.Vl
