/- Maps of the given program's types: what is found, set, taken out. Conditions: none. -/
import Derived.Test.YtbnfogbfphakmaaGreatDoorLs
import Derived.Test.YtbnfogbfphakmaaGreatDoorTyL
set_option linter.unusedSimpArgs false
set_option linter.unusedVariables false
namespace Go.Vl
open Go Go.Proofs
@[simp] theorem Y8 {x:Int} {v:Int} {l:List (Int×Int)}:O6 (AB (C7 (AH .i64) (AH .i64)) l) [.int .i64 x,.int .i64 v] ((Dx inE x l).map fun q=>(q.1,[.int .i64 q.2]))=AB (C7 (AH .i64) (AH .i64)) (Qm inE l x v):=Wo (by simp) (fun _=>rfl)
@[simp] theorem Y9 {x:Int} {l:List (Int×Int)}:QA (AB (C7 (AH .i64) (AH .i64)) l) ((Dx inE x l).map fun q=>(q.1,[.int .i64 q.2]))=AB (C7 (AH .i64) (AH .i64)) (Qn inE l x):=Wp (fun _=>rfl)
end Go.Vl
