/- Maps of the given program's types: what is found, set, taken out. Conditions: none. -/
import Derived.Test.YthpiljonjcfgcaaGreatQs
import Derived.Test.YthpiljonjcfgcaaGreatTyQ
set_option linter.unusedSimpArgs false
set_option linter.unusedVariables false
namespace Go.Vl
open Go Go.Proofs
@[simp] theorem lookR_103 {ok:Bool} {x:Int} {l:List (Int×Int)}:lookR Tryz.prog 3 false ok ((mfind inE x l).map fun q=>(q.1,[.int .i64 q.2]))=some (if ok=true then .tup [(fun v:Int=>(.d (.int .i64 v):AV)) ((mget inE l x).getD 0),.d (.bool (mget inE l x).isSome)] else(fun v:Int=>(.d (.int .i64 v):AV)) ((mget inE l x).getD 0)):=lookR_F (P:=Tryz.prog) (et:=3) (va:=false) (g:=(iRow .i64)) (av:=fun v:Int=>(.d (.int .i64 v):AV)) (z:=0) (fun v=>by simp[packMA]) (by kernel_rfl)
@[simp] theorem setR_103 {x:Int} {v:Int} {l:List (Int×Int)}:setR (rowsF (mRow (iRow .i64) (iRow .i64)) l) [.int .i64 x,.int .i64 v] ((mfind inE x l).map fun q=>(q.1,[.int .i64 q.2]))=rowsF (mRow (iRow .i64) (iRow .i64)) (mset inE l x v):=setR_F (by simp) (fun _=>rfl)
@[simp] theorem delR_103 {x:Int} {l:List (Int×Int)}:delR (rowsF (mRow (iRow .i64) (iRow .i64)) l) ((mfind inE x l).map fun q=>(q.1,[.int .i64 q.2]))=rowsF (mRow (iRow .i64) (iRow .i64)) (mdel inE l x):=delR_F (fun _=>rfl)
end Go.Vl
