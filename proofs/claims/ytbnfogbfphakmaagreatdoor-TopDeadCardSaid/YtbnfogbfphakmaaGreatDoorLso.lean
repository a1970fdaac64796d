/- Library functions at owned rows of integers: sorting, and what is equal to its neighbour left out. Conditions: none. -/
import Derived.Test.YtbnfogbfphakmaaGreatDoorVmZd
import Derived.Test.YtbnfogbfphakmaaGreatDoorLsh
set_option linter.unusedSimpArgs false
set_option linter.unusedVariables false
namespace Go.Vl
open Go Go.Proofs
noncomputable def sYSort_int_vec0 (a0:List Int):Option (List Int):=(ck (a0.length≤268435456)).bind fun _=>some (a0.mergeSort fun x y=>decide (x≤y))
theorem Dh {a0 r:List Int} (h0:sYSort_int_vec0 a0=some r):Ka Tryz.prog 116 [] [⟨3,1,AB (AH .i64) a0⟩] [.vec (InV 0)] (.tup []) [] [⟨3,1,AB (AH .i64) r⟩]:=by
 unfold sYSort_int_vec0 at h0
 obtain⟨_,h1,h0⟩:=bnd h0
 cases h0
 exact Q0 Tryz.slices_Sort_int Tryz.slices_Sort_int_none a0 (AZ h1)
noncomputable def sYCompact_int_eat0_own0 (a0:List Int):Option (List Int):=(ck (a0.length≤268435456)).bind fun _=>some (Lib.compact a0)
theorem B8 {a0 r:List Int} (h0:sYCompact_int_eat0_own0 a0=some r):DI Tryz.prog 117 [] [⟨3,1,AB (AH .i64) a0⟩] [.vec (InV 0)] (.vec (InV 0)) [] [⟨3,1,AB (AH .i64) r⟩]:=by
 unfold sYCompact_int_eat0_own0 at h0
 obtain⟨_,h1,h0⟩:=bnd h0
 cases h0
 exact ML Tryz.slices_Compact_int Tryz.slices_Compact_int_empty a0 (AZ h1)
end Go.Vl
