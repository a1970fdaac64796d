/- The given program's structs. Conditions: none. -/
import Derived.Test.YtjnflahicimmlaaGreatVmV
set_option linter.unusedSimpArgs false
set_option linter.unusedVariables false
namespace Go.Vl
open Go
structure zT where
 L:List Int
 at_:Int
deriving Inhabited
@[simp] def zTr (x:zT):List D:=[.slice (rowsF (iRow .i64) x.L),.int .i64 x.at_]
@[simp] def zTa (x:zT):List AV:=[.d (.slice (rowsF (iRow .i64) x.L)),.d (.int .i64 x.at_)]
structure zE where
 Kind:Int
 Name:ByteArray
 Commit:Int
 Time:Int
deriving Inhabited
@[simp] def zEr (x:zE):List D:=[.int .i64 x.Kind,.str x.Name,.int .i64 x.Commit,.int .i64 x.Time]
@[simp] def zEa (x:zE):List AV:=[.d (.int .i64 x.Kind),.d (.str x.Name),.d (.int .i64 x.Commit),.d (.int .i64 x.Time)]
structure zI where
 Name:ByteArray
 ID:Int
deriving Inhabited
@[simp] def zIr (x:zI):List D:=[.str x.Name,.int .i64 x.ID]
@[simp] def zIa (x:zI):List AV:=[.d (.str x.Name),.d (.int .i64 x.ID)]
structure zO where
 ID:Int
 Kind:Int
 Data:List Int
 Items:List zI
 Tree:Int
 Parents:List Int
 Author:ByteArray
 Time:Int
deriving Inhabited
@[simp] def zOr (x:zO):List D:=[.int .i64 x.ID,.int .i64 x.Kind,.slice (rowsF (iRow .u8) x.Data),.slice (rowsF zIr x.Items),.int .i64 x.Tree,.slice (rowsF (iRow .i64) x.Parents),.str x.Author,.int .i64 x.Time]
@[simp] def zOa (x:zO):List AV:=[.d (.int .i64 x.ID),.d (.int .i64 x.Kind),.d (.slice (rowsF (iRow .u8) x.Data)),.d (.slice (rowsF zIr x.Items)),.d (.int .i64 x.Tree),.d (.slice (rowsF (iRow .i64) x.Parents)),.d (.str x.Author),.d (.int .i64 x.Time)]
structure zR where
 Objects:List zO
 Events:List zE
deriving Inhabited
@[simp] def zRr (x:zR):List D:=[.slice (rowsF zOr x.Objects),.slice (rowsF zEr x.Events)]
@[simp] def zRa (x:zR):List AV:=[.d (.slice (rowsF zOr x.Objects)),.d (.slice (rowsF zEr x.Events))]
end Go.Vl
