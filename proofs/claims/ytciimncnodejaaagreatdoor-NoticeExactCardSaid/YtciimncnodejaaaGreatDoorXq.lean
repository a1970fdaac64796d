/- Maps of the given program's types: what is found, set, taken out. Conditions: none. -/
import Derived.Test.YtciimncnodejaaaGreatDoorXm
import Derived.Test.YtciimncnodejaaaGreatDoorTyX
set_option linter.unusedSimpArgs false
set_option linter.unusedVariables false
namespace Go.Vl
open Go Go.Proofs
@[simp] theorem lookR_69 {ok : Bool} {x : Int} {l : List (Int × Bool)} : lookR Tryz.prog 4 false ok ((mfind inE x l).map fun q => (q.1, [.bool q.2])) = some (if ok = true then .tup [(fun v : Bool => (.d (.bool v) : AV)) ((mget inE l x).getD false), .d (.bool (mget inE l x).isSome)] else (fun v : Bool => (.d (.bool v) : AV)) ((mget inE l x).getD false)) := lookR_F (P := Tryz.prog) (et := 4) (va := false) (g := bRow) (av := fun v : Bool => (.d (.bool v) : AV)) (z := false) (fun v => by simp [packMA]) (by kernel_rfl)
@[simp] theorem setR_69 {x : Int} {v : Bool} {l : List (Int × Bool)} : setR (rowsF (mRow (iRow .i64) bRow) l) [.int .i64 x, .bool v] ((mfind inE x l).map fun q => (q.1, [.bool q.2])) = rowsF (mRow (iRow .i64) bRow) (mset inE l x v) := setR_F (by simp) (fun _ => rfl)
@[simp] theorem delR_69 {x : Int} {l : List (Int × Bool)} : delR (rowsF (mRow (iRow .i64) bRow) l) ((mfind inE x l).map fun q => (q.1, [.bool q.2])) = rowsF (mRow (iRow .i64) bRow) (mdel inE l x) := delR_F (fun _ => rfl)
end Go.Vl
