/- The given program's structs. Conditions: none. -/
import Derived.Test.YtbnfogbfphakmaaGreatDoorVmV
set_option linter.unusedSimpArgs false
set_option linter.unusedVariables false
namespace Go.Vl
open Go
structure api_Command where
 Kind:Int
 Name:ByteArray
 Other:ByteArray
 Time:Int
 A:Int
 B:Int
deriving Inhabited
@[simp] def api_Command_row (x:api_Command):List D:=[.int .i64 x.Kind,.str x.Name,.str x.Other,.int .i64 x.Time,.int .i64 x.A,.int .i64 x.B]
@[simp] def api_Command_av (x:api_Command):List AV:=[.d (.int .i64 x.Kind),.d (.str x.Name),.d (.str x.Other),.d (.int .i64 x.Time),.d (.int .i64 x.A),.d (.int .i64 x.B)]
structure api_Member where
 Time:Int
 Kind:Int
 Principal:Int
 Group:Int
deriving Inhabited
@[simp] def api_Member_row (x:api_Member):List D:=[.int .i64 x.Time,.int .i64 x.Kind,.int .i64 x.Principal,.int .i64 x.Group]
@[simp] def api_Member_av (x:api_Member):List AV:=[.d (.int .i64 x.Time),.d (.int .i64 x.Kind),.d (.int .i64 x.Principal),.d (.int .i64 x.Group)]
structure api_Directory where
 Kinds:List Int
 Events:List api_Member
deriving Inhabited
@[simp] def api_Directory_row (x:api_Directory):List D:=[.slice (rowsF (iRow .i64) x.Kinds),.slice (rowsF api_Member_row x.Events)]
@[simp] def api_Directory_av (x:api_Directory):List AV:=[.d (.slice (rowsF (iRow .i64) x.Kinds)),.d (.slice (rowsF api_Member_row x.Events))]
structure api_Access where
 Time:Int
 Kind:Int
 Place:Int
 Principal:Int
 Until:Int
 Content:Int
 From:Int
deriving Inhabited
@[simp] def api_Access_row (x:api_Access):List D:=[.int .i64 x.Time,.int .i64 x.Kind,.int .i64 x.Place,.int .i64 x.Principal,.int .i64 x.Until,.int .i64 x.Content,.int .i64 x.From]
@[simp] def api_Access_av (x:api_Access):List AV:=[.d (.int .i64 x.Time),.d (.int .i64 x.Kind),.d (.int .i64 x.Place),.d (.int .i64 x.Principal),.d (.int .i64 x.Until),.d (.int .i64 x.Content),.d (.int .i64 x.From)]
structure api_Estate where
 Places:Int
 Events:List api_Access
deriving Inhabited
@[simp] def api_Estate_row (x:api_Estate):List D:=[.int .i64 x.Places,.slice (rowsF api_Access_row x.Events)]
@[simp] def api_Estate_av (x:api_Estate):List AV:=[.d (.int .i64 x.Places),.d (.slice (rowsF api_Access_row x.Events))]
structure api_Audience where
 Public:Bool
 Principals:List Int
deriving Inhabited
@[simp] def api_Audience_row (x:api_Audience):List D:=[.bool x.Public,.slice (rowsF (iRow .i64) x.Principals)]
@[simp] def api_Audience_av (x:api_Audience):List AV:=[.d (.bool x.Public),.d (.slice (rowsF (iRow .i64) x.Principals))]
structure zT where
 L:List Int
 at_:Int
deriving Inhabited
@[simp] def zTr (x:zT):List D:=[.slice (rowsF (iRow .i64) x.L),.int .i64 x.at_]
@[simp] def zTa (x:zT):List AV:=[.d (.slice (rowsF (iRow .i64) x.L)),.d (.int .i64 x.at_)]
structure api_Exposure where
 Principal:Int
 Time:Int
deriving Inhabited
@[simp] def api_Exposure_row (x:api_Exposure):List D:=[.int .i64 x.Principal,.int .i64 x.Time]
@[simp] def api_Exposure_av (x:api_Exposure):List AV:=[.d (.int .i64 x.Principal),.d (.int .i64 x.Time)]
structure api_Record where
 Known:Int
 Since:Int
 Subject:Int
 Value:Int
deriving Inhabited
@[simp] def api_Record_row (x:api_Record):List D:=[.int .i64 x.Known,.int .i64 x.Since,.int .i64 x.Subject,.int .i64 x.Value]
@[simp] def api_Record_av (x:api_Record):List AV:=[.d (.int .i64 x.Known),.d (.int .i64 x.Since),.d (.int .i64 x.Subject),.d (.int .i64 x.Value)]
structure api_Belief where
 Value:Int
 Record:Int
deriving Inhabited
@[simp] def api_Belief_row (x:api_Belief):List D:=[.int .i64 x.Value,.int .i64 x.Record]
@[simp] def api_Belief_av (x:api_Belief):List AV:=[.d (.int .i64 x.Value),.d (.int .i64 x.Record)]
structure api_Replica where
 Generation:Int
 Serving:Bool
deriving Inhabited
@[simp] def api_Replica_row (x:api_Replica):List D:=[.int .i64 x.Generation,.bool x.Serving]
@[simp] def api_Replica_av (x:api_Replica):List AV:=[.d (.int .i64 x.Generation),.d (.bool x.Serving)]
structure api_Cluster where
 Fence:Bool
 Sets:List Int
 Replicas:List api_Replica
 Snapshots:List Int
deriving Inhabited
@[simp] def api_Cluster_row (x:api_Cluster):List D:=[.bool x.Fence,.slice (rowsF (iRow .i64) x.Sets),.slice (rowsF api_Replica_row x.Replicas),.slice (rowsF (iRow .i64) x.Snapshots)]
@[simp] def api_Cluster_av (x:api_Cluster):List AV:=[.d (.bool x.Fence),.d (.slice (rowsF (iRow .i64) x.Sets)),.d (.slice (rowsF api_Replica_row x.Replicas)),.d (.slice (rowsF (iRow .i64) x.Snapshots))]
structure api_ReplicaEvent where
 Kind:Int
 Replica:Int
 Snapshot:Int
 Bits:Int
deriving Inhabited
@[simp] def api_ReplicaEvent_row (x:api_ReplicaEvent):List D:=[.int .i64 x.Kind,.int .i64 x.Replica,.int .i64 x.Snapshot,.int .i64 x.Bits]
@[simp] def api_ReplicaEvent_av (x:api_ReplicaEvent):List AV:=[.d (.int .i64 x.Kind),.d (.int .i64 x.Replica),.d (.int .i64 x.Snapshot),.d (.int .i64 x.Bits)]
structure api_Evidence where
 Replica:Int
 Generation:Int
 Refused:Bool
deriving Inhabited
@[simp] def api_Evidence_row (x:api_Evidence):List D:=[.int .i64 x.Replica,.int .i64 x.Generation,.bool x.Refused]
@[simp] def api_Evidence_av (x:api_Evidence):List AV:=[.d (.int .i64 x.Replica),.d (.int .i64 x.Generation),.d (.bool x.Refused)]
end Go.Vl
