/- Maps of the given program's types: what is found, set, taken out. Conditions: none. -/
import Derived.Test.YtbnfogbfphakmaaGreatDoorLs
import Derived.Test.YtbnfogbfphakmaaGreatDoorTyL
set_option linter.unusedSimpArgs false
set_option linter.unusedVariables false
namespace Go.Vl
open Go Go.Proofs
@[simp] theorem setR_256 {x:Int} {v:Int} {l:List (Int×Int)}:setR (rowsF (mRow (iRow .i64) (iRow .i64)) l) [.int .i64 x,.int .i64 v] ((mfind inE x l).map fun q=>(q.1,[.int .i64 q.2]))=rowsF (mRow (iRow .i64) (iRow .i64)) (mset inE l x v):=setR_F (by simp) (fun _=>rfl)
@[simp] theorem delR_256 {x:Int} {l:List (Int×Int)}:delR (rowsF (mRow (iRow .i64) (iRow .i64)) l) ((mfind inE x l).map fun q=>(q.1,[.int .i64 q.2]))=rowsF (mRow (iRow .i64) (iRow .i64)) (mdel inE l x):=delR_F (fun _=>rfl)
end Go.Vl
