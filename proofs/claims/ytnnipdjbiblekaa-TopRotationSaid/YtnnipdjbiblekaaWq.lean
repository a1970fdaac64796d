/- Maps of the given program's types: what is found, set, taken out. Conditions: none. -/
import Derived.Test.YtnnipdjbiblekaaWm
import Derived.Test.YtnnipdjbiblekaaTyW
set_option linter.unusedSimpArgs false
set_option linter.unusedVariables false
namespace Go.Vl
open Go Go.Proofs
@[simp 2000] theorem keyB_134 {x : List Int} (hx : x.length = 11) : keyB Try.prog 132 true (.agg (arC (iRow .i64) x)) = true := keyB_arr (el := 3) (by simp) (by simp) (by simp) hx
@[simp 2000] theorem unpack_134 {x : List Int} (hx : x.length = 11) : unpackMA true (.agg (arC (iRow .i64) x)) = some (arRow 11 (iRow .i64) x) := unpack_arr hx
@[simp 2000] theorem findM_134 {ν : Type} {g : ν → List D} {x : List Int} (hx : x.length = 11) (l : List (List Int × ν)) : findM Try.prog 132 true 11 (.agg (arC (iRow .i64) x)) (rowsF (mRow (arRow 11 (iRow .i64)) g) l) = some ((mfind (arE 11) x l).map fun q => (q.1, g q.2)) := findM_arr (el := 3) (by simp) (by simp) (by simp) (by kernel_rfl) hx l
@[simp] theorem lookR_134 {ok : Bool} {x : List Int} {l : List ((List Int) × Bool)} : lookR Try.prog 4 false ok ((mfind (arE 11) x l).map fun q => (q.1, [.bool q.2])) = some (if ok = true then .tup [(fun v : Bool => (.d (.bool v) : AV)) ((mget (arE 11) l x).getD false), .d (.bool (mget (arE 11) l x).isSome)] else (fun v : Bool => (.d (.bool v) : AV)) ((mget (arE 11) l x).getD false)) := lookR_F (P := Try.prog) (et := 4) (va := false) (g := bRow) (av := fun v : Bool => (.d (.bool v) : AV)) (z := false) (fun v => by simp [packMA]) (by kernel_rfl)
@[simp] theorem setR_134 {x : List Int} {v : Bool} {l : List ((List Int) × Bool)} : setR (rowsF (mRow (arRow 11 (iRow .i64)) bRow) l) [.int .i64 (arD x 0), .int .i64 (arD x 1), .int .i64 (arD x 2), .int .i64 (arD x 3), .int .i64 (arD x 4), .int .i64 (arD x 5), .int .i64 (arD x 6), .int .i64 (arD x 7), .int .i64 (arD x 8), .int .i64 (arD x 9), .int .i64 (arD x 10), .bool v] ((mfind (arE 11) x l).map fun q => (q.1, [.bool q.2])) = rowsF (mRow (arRow 11 (iRow .i64)) bRow) (mset (arE 11) l x v) := setR_F (by simp) (fun _ => rfl)
@[simp] theorem delR_134 {x : List Int} {l : List ((List Int) × Bool)} : delR (rowsF (mRow (arRow 11 (iRow .i64)) bRow) l) ((mfind (arE 11) x l).map fun q => (q.1, [.bool q.2])) = rowsF (mRow (arRow 11 (iRow .i64)) bRow) (mdel (arE 11) l x) := delR_F (fun _ => rfl)
end Go.Vl
