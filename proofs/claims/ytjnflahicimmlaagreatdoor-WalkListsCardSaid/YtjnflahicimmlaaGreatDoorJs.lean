/- The given program's structs. Conditions: none. -/
import Derived.Test.YtjnflahicimmlaaGreatDoorVmZv
set_option linter.unusedSimpArgs false
set_option linter.unusedVariables false
namespace Go.Vl
open Go
structure bQ where
 L:List Int
 at_:Int
deriving Inhabited
@[simp] def Ui (x:bQ):List D:=[.slice (ak (aH .i64) x.L),.int .i64 x.at_]
@[simp] def iS (x:bQ):List AV:=[.d (.slice (ak (aH .i64) x.L)),.d (.int .i64 x.at_)]
structure az where
 Kind:Int
 Name:ByteArray
 dI:Int
 Time:Int
deriving Inhabited
@[simp] def aT (x:az):List D:=[.int .i64 x.Kind,.str x.Name,.int .i64 x.dI,.int .i64 x.Time]
@[simp] def mM (x:az):List AV:=[.d (.int .i64 x.Kind),.d (.str x.Name),.d (.int .i64 x.dI),.d (.int .i64 x.Time)]
structure aB where
 Name:ByteArray
 ID:Int
deriving Inhabited
@[simp] def aw (x:aB):List D:=[.str x.Name,.int .i64 x.ID]
@[simp] def Db (x:aB):List AV:=[.d (.str x.Name),.d (.int .i64 x.ID)]
structure ab where
 ID:Int
 Kind:Int
 Data:List Int
 bd:List aB
 Tree:Int
 bf:List Int
 fJ:ByteArray
 Time:Int
deriving Inhabited
@[simp] def au (x:ab):List D:=[.int .i64 x.ID,.int .i64 x.Kind,.slice (ak (aH .u8) x.Data),.slice (ak aw x.bd),.int .i64 x.Tree,.slice (ak (aH .i64) x.bf),.str x.fJ,.int .i64 x.Time]
@[simp] def bc (x:ab):List AV:=[.d (.int .i64 x.ID),.d (.int .i64 x.Kind),.d (.slice (ak (aH .u8) x.Data)),.d (.slice (ak aw x.bd)),.d (.int .i64 x.Tree),.d (.slice (ak (aH .i64) x.bf)),.d (.str x.fJ),.d (.int .i64 x.Time)]
structure ao where
 aq:List ab
 aC:List az
deriving Inhabited
@[simp] def aK (x:ao):List D:=[.slice (ak au x.aq),.slice (ak aT x.aC)]
@[simp] def ay (x:ao):List AV:=[.d (.slice (ak au x.aq)),.d (.slice (ak aT x.aC))]
structure cw where
 objects:List (Int×ab)
 left:Int
 out:List aB
deriving Inhabited
@[simp] def Qs (x:cw):List D:=[.mp (bL 71 1 false true) 9 (ak (bB (aH .i64) au) x.objects),.int .i64 x.left,.slice (ak aw x.out)]
@[simp] def QU (x:cw):List AV:=[.d (.mp (bL 71 1 false true) 9 (ak (bB (aH .i64) au) x.objects)),.d (.int .i64 x.left),.d (.slice (ak aw x.out))]
structure dG where
 Source:Int
 Path:ByteArray
 Time:Int
deriving Inhabited
@[simp] def cP (x:dG):List D:=[.int .i64 x.Source,.str x.Path,.int .i64 x.Time]
@[simp] def Wx (x:dG):List AV:=[.d (.int .i64 x.Source),.d (.str x.Path),.d (.int .i64 x.Time)]
structure bU where
 Data:List Int
 vu:List dG
deriving Inhabited
@[simp] def eL (x:bU):List D:=[.slice (ak (aH .u8) x.Data),.slice (ak cP x.vu)]
@[simp] def TZ (x:bU):List AV:=[.d (.slice (ak (aH .u8) x.Data)),.d (.slice (ak cP x.vu))]
end Go.Vl
