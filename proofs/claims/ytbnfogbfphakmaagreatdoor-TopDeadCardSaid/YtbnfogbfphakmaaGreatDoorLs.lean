/- The given program's structs. Conditions: none. -/
import Derived.Test.YtbnfogbfphakmaaGreatDoorVmV
set_option linter.unusedSimpArgs false
set_option linter.unusedVariables false
namespace Go.Vl
open Go
structure Hw where
 Kind:Int
 Name:ByteArray
 Other:ByteArray
 Time:Int
 A:Int
 B:Int
deriving Inhabited
@[simp] def P0 (x:Hw):List D:=[.int .i64 x.Kind,.str x.Name,.str x.Other,.int .i64 x.Time,.int .i64 x.A,.int .i64 x.B]
@[simp] def Qw (x:Hw):List AV:=[.d (.int .i64 x.Kind),.d (.str x.Name),.d (.str x.Other),.d (.int .i64 x.Time),.d (.int .i64 x.A),.d (.int .i64 x.B)]
structure Eb where
 Time:Int
 Kind:Int
 Principal:Int
 Group:Int
deriving Inhabited
@[simp] def AS (x:Eb):List D:=[.int .i64 x.Time,.int .i64 x.Kind,.int .i64 x.Principal,.int .i64 x.Group]
@[simp] def KF (x:Eb):List AV:=[.d (.int .i64 x.Time),.d (.int .i64 x.Kind),.d (.int .i64 x.Principal),.d (.int .i64 x.Group)]
structure AI where
 Kinds:List Int
 Events:List Eb
deriving Inhabited
@[simp] def OM (x:AI):List D:=[.slice (AB (AH .i64) x.Kinds),.slice (AB AS x.Events)]
@[simp] def AY (x:AI):List AV:=[.d (.slice (AB (AH .i64) x.Kinds)),.d (.slice (AB AS x.Events))]
structure Ab where
 Time:Int
 Kind:Int
 Place:Int
 Principal:Int
 Until:Int
 Content:Int
 From:Int
deriving Inhabited
@[simp] def AK (x:Ab):List D:=[.int .i64 x.Time,.int .i64 x.Kind,.int .i64 x.Place,.int .i64 x.Principal,.int .i64 x.Until,.int .i64 x.Content,.int .i64 x.From]
@[simp] def Fv (x:Ab):List AV:=[.d (.int .i64 x.Time),.d (.int .i64 x.Kind),.d (.int .i64 x.Place),.d (.int .i64 x.Principal),.d (.int .i64 x.Until),.d (.int .i64 x.Content),.d (.int .i64 x.From)]
structure AJ where
 Places:Int
 Events:List Ab
deriving Inhabited
@[simp] def Qx (x:AJ):List D:=[.int .i64 x.Places,.slice (AB AK x.Events)]
@[simp] def AX (x:AJ):List AV:=[.d (.int .i64 x.Places),.d (.slice (AB AK x.Events))]
structure Gf where
 Public:Bool
 Principals:List Int
deriving Inhabited
@[simp] def PX (x:Gf):List D:=[.bool x.Public,.slice (AB (AH .i64) x.Principals)]
@[simp] def P1 (x:Gf):List AV:=[.d (.bool x.Public),.d (.slice (AB (AH .i64) x.Principals))]
structure zT where
 L:List Int
 at_:Int
deriving Inhabited
@[simp] def zTr (x:zT):List D:=[.slice (AB (AH .i64) x.L),.int .i64 x.at_]
@[simp] def zTa (x:zT):List AV:=[.d (.slice (AB (AH .i64) x.L)),.d (.int .i64 x.at_)]
structure Gg where
 Principal:Int
 Time:Int
deriving Inhabited
@[simp] def PY (x:Gg):List D:=[.int .i64 x.Principal,.int .i64 x.Time]
@[simp] def P2 (x:Gg):List AV:=[.d (.int .i64 x.Principal),.d (.int .i64 x.Time)]
structure JF where
 Known:Int
 Since:Int
 Subject:Int
 Value:Int
deriving Inhabited
@[simp] def Qy (x:JF):List D:=[.int .i64 x.Known,.int .i64 x.Since,.int .i64 x.Subject,.int .i64 x.Value]
@[simp] def Ss (x:JF):List AV:=[.d (.int .i64 x.Known),.d (.int .i64 x.Since),.d (.int .i64 x.Subject),.d (.int .i64 x.Value)]
structure JG where
 Value:Int
 Record:Int
deriving Inhabited
@[simp] def Qz (x:JG):List D:=[.int .i64 x.Value,.int .i64 x.Record]
@[simp] def Su (x:JG):List AV:=[.d (.int .i64 x.Value),.d (.int .i64 x.Record)]
structure AC where
 Generation:Int
 Serving:Bool
deriving Inhabited
@[simp] def AE (x:AC):List D:=[.int .i64 x.Generation,.bool x.Serving]
@[simp] def Cg (x:AC):List AV:=[.d (.int .i64 x.Generation),.d (.bool x.Serving)]
structure AA where
 Fence:Bool
 Sets:List Int
 Replicas:List AC
 Snapshots:List Int
deriving Inhabited
@[simp] def P3 (x:AA):List D:=[.bool x.Fence,.slice (AB (AH .i64) x.Sets),.slice (AB AE x.Replicas),.slice (AB (AH .i64) x.Snapshots)]
@[simp] def AF (x:AA):List AV:=[.d (.bool x.Fence),.d (.slice (AB (AH .i64) x.Sets)),.d (.slice (AB AE x.Replicas)),.d (.slice (AB (AH .i64) x.Snapshots))]
structure AP where
 Kind:Int
 Replica:Int
 Snapshot:Int
 Bits:Int
deriving Inhabited
@[simp] def FI (x:AP):List D:=[.int .i64 x.Kind,.int .i64 x.Replica,.int .i64 x.Snapshot,.int .i64 x.Bits]
@[simp] def BY (x:AP):List AV:=[.d (.int .i64 x.Kind),.d (.int .i64 x.Replica),.d (.int .i64 x.Snapshot),.d (.int .i64 x.Bits)]
structure AQ where
 Replica:Int
 Generation:Int
 Refused:Bool
deriving Inhabited
@[simp] def Aa (x:AQ):List D:=[.int .i64 x.Replica,.int .i64 x.Generation,.bool x.Refused]
@[simp] def DF (x:AQ):List AV:=[.d (.int .i64 x.Replica),.d (.int .i64 x.Generation),.d (.bool x.Refused)]
end Go.Vl
