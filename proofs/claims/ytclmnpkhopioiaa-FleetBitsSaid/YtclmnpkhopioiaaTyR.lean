/- The facts on the types of this translation that the walks use. Conditions: none. -/
import Derived.Test.YtclmnpkhopioiaaVmV
import Derived.Test.YtclmnpkhopioiaaProg
import Derived.KernelRfl
set_option linter.unusedSimpArgs false
set_option linter.unusedVariables false
namespace Go.Vl
open Go Go.Proofs
theorem fol : Try.prog.follows .mixedOrders = true := by kernel_rfl
attribute [simp] Try.underlying3
@[simp] theorem sz3 : szOf Try.prog 3 = some 1 := by kernel_rfl
@[simp] theorem ag3 : isAggB Try.prog 3 = false := by kernel_rfl
@[simp] theorem by3 : byOk Try.prog 3 = true := by kernel_rfl
@[simp] theorem ze3 : zerOf Try.prog 3 = some ([.d (.int .i64 0)]) := by kernel_rfl
attribute [simp] Try.underlying4
@[simp] theorem sz4 : szOf Try.prog 4 = some 1 := by kernel_rfl
@[simp] theorem ag4 : isAggB Try.prog 4 = false := by kernel_rfl
@[simp] theorem by4 : byOk Try.prog 4 = true := by kernel_rfl
@[simp] theorem ze4 : zerOf Try.prog 4 = some ([.d (.bool false)]) := by kernel_rfl
attribute [simp] Try.underlying5
@[simp] theorem sz5 : szOf Try.prog 5 = some 1 := by kernel_rfl
@[simp] theorem ag5 : isAggB Try.prog 5 = false := by kernel_rfl
@[simp] theorem by5 : byOk Try.prog 5 = true := by kernel_rfl
@[simp] theorem ze5 : zerOf Try.prog 5 = some ([.d (.int .u8 0)]) := by kernel_rfl
attribute [simp] Try.underlying9
@[simp] theorem sz9 : szOf Try.prog 9 = some 1 := by kernel_rfl
@[simp] theorem ag9 : isAggB Try.prog 9 = false := by kernel_rfl
@[simp] theorem by9 : byOk Try.prog 9 = true := by kernel_rfl
@[simp] theorem ze9 : zerOf Try.prog 9 = some ([.d (.str .empty)]) := by kernel_rfl
attribute [simp] Try.underlying22
@[simp] theorem sz22 : szOf Try.prog 22 = some 1 := by kernel_rfl
@[simp] theorem ag22 : isAggB Try.prog 22 = false := by kernel_rfl
@[simp] theorem by22 : byOk Try.prog 22 = true := by kernel_rfl
@[simp] theorem ze22 : zerOf Try.prog 22 = some ([.nilS]) := by kernel_rfl
attribute [simp] Try.underlying24
@[simp] theorem sz24 : szOf Try.prog 24 = some 1 := by kernel_rfl
@[simp] theorem ag24 : isAggB Try.prog 24 = false := by kernel_rfl
@[simp] theorem by24 : byOk Try.prog 24 = true := by kernel_rfl
@[simp] theorem ze24 : zerOf Try.prog 24 = some ([.d .nilp]) := by kernel_rfl
attribute [simp] Try.underlying26
@[simp] theorem sz26 : szOf Try.prog 26 = some 2 := by kernel_rfl
@[simp] theorem ag26 : isAggB Try.prog 26 = true := by kernel_rfl
@[simp] theorem by26 : byOk Try.prog 26 = true := by kernel_rfl
attribute [simp] Try.eqGuardType26
attribute [simp] Try.stoodInHeld26
@[simp] theorem ze26 : zerOf Try.prog 26 = some ([.nilS, .d (.int .i64 0)]) := by kernel_rfl
attribute [simp] Try.underlying27
@[simp] theorem sz27 : szOf Try.prog 27 = some 1 := by kernel_rfl
@[simp] theorem ag27 : isAggB Try.prog 27 = false := by kernel_rfl
@[simp] theorem by27 : byOk Try.prog 27 = true := by kernel_rfl
@[simp] theorem ze27 : zerOf Try.prog 27 = some ([.nilS]) := by kernel_rfl
attribute [simp] Try.underlying29
@[simp] theorem sz29 : szOf Try.prog 29 = some 2 := by kernel_rfl
@[simp] theorem ag29 : isAggB Try.prog 29 = true := by kernel_rfl
@[simp] theorem by29 : byOk Try.prog 29 = true := by kernel_rfl
attribute [simp] Try.eqGuardType29
attribute [simp] Try.stoodInHeld29
@[simp] theorem ze29 : zerOf Try.prog 29 = some ([.d (.int .i64 0), .nilS]) := by kernel_rfl
attribute [simp] Try.underlying31
@[simp] theorem sz31 : szOf Try.prog 31 = some 1 := by kernel_rfl
@[simp] theorem ag31 : isAggB Try.prog 31 = false := by kernel_rfl
@[simp] theorem by31 : byOk Try.prog 31 = true := by kernel_rfl
@[simp] theorem ze31 : zerOf Try.prog 31 = some ([.nilS]) := by kernel_rfl
attribute [simp] Try.underlying33
@[simp] theorem sz33 : szOf Try.prog 33 = some 3 := by kernel_rfl
@[simp] theorem ag33 : isAggB Try.prog 33 = true := by kernel_rfl
@[simp] theorem by33 : byOk Try.prog 33 = true := by kernel_rfl
attribute [simp] Try.eqGuardType33
attribute [simp] Try.stoodInHeld33
@[simp] theorem ze33 : zerOf Try.prog 33 = some ([.d (.int .i64 0), .d (.int .i64 0), .nilS]) := by kernel_rfl
attribute [simp] Try.underlying39
@[simp] theorem sz39 : szOf Try.prog 39 = some 3 := by kernel_rfl
@[simp] theorem ag39 : isAggB Try.prog 39 = true := by kernel_rfl
@[simp] theorem by39 : byOk Try.prog 39 = true := by kernel_rfl
attribute [simp] Try.eqGuardType39
attribute [simp] Try.stoodInHeld39
@[simp] theorem ze39 : zerOf Try.prog 39 = some ([.d (.bool false), .d (.int .i64 0), .d (.int .i64 0)]) := by kernel_rfl
attribute [simp] Try.underlying43
@[simp] theorem sz43 : szOf Try.prog 43 = some 6 := by kernel_rfl
@[simp] theorem ag43 : isAggB Try.prog 43 = true := by kernel_rfl
@[simp] theorem by43 : byOk Try.prog 43 = true := by kernel_rfl
attribute [simp] Try.eqGuardType43
@[simp] theorem ze43 : zerOf Try.prog 43 = some ([.d (.int .i64 0), .nilS, .d (.int .i64 0), .nilS, .d (.int .i64 0), .nilS]) := by kernel_rfl
attribute [simp] Try.underlying44
@[simp] theorem sz44 : szOf Try.prog 44 = some 1 := by kernel_rfl
@[simp] theorem ag44 : isAggB Try.prog 44 = false := by kernel_rfl
@[simp] theorem by44 : byOk Try.prog 44 = true := by kernel_rfl
@[simp] theorem ze44 : zerOf Try.prog 44 = some ([.d (.int .i64 0)]) := by kernel_rfl
attribute [simp] Try.underlying52
@[simp] theorem sz52 : szOf Try.prog 52 = some 12 := by kernel_rfl
@[simp] theorem ag52 : isAggB Try.prog 52 = true := by kernel_rfl
@[simp] theorem by52 : byOk Try.prog 52 = true := by kernel_rfl
attribute [simp] Try.eqGuardType52
@[simp] theorem ze52 : zerOf Try.prog 52 = some ([.d (.int .i64 0), .d (.int .i64 0), .nilS, .d (.int .i64 0), .d (.int .i64 0), .nilS, .d (.int .i64 0), .d (.int .i64 0), .nilS, .d (.int .i64 0), .d (.int .i64 0), .nilS]) := by kernel_rfl
attribute [simp] Try.underlying53
@[simp] theorem sz53 : szOf Try.prog 53 = some 2 := by kernel_rfl
@[simp] theorem ag53 : isAggB Try.prog 53 = true := by kernel_rfl
@[simp] theorem by53 : byOk Try.prog 53 = true := by kernel_rfl
attribute [simp] Try.eqGuardType53
@[simp] theorem ze53 : zerOf Try.prog 53 = some ([.d (.int .i64 0), .d (.int .i64 0)]) := by kernel_rfl
attribute [simp] Try.underlying55
@[simp] theorem sz55 : szOf Try.prog 55 = some 4 := by kernel_rfl
@[simp] theorem ag55 : isAggB Try.prog 55 = true := by kernel_rfl
@[simp] theorem by55 : byOk Try.prog 55 = true := by kernel_rfl
attribute [simp] Try.eqGuardType55
@[simp] theorem ze55 : zerOf Try.prog 55 = some ([.d (.int .i64 0), .d (.int .i64 0), .d (.int .i64 0), .d (.int .i64 0)]) := by kernel_rfl
attribute [simp] Try.underlying59
@[simp] theorem sz59 : szOf Try.prog 59 = some 8 := by kernel_rfl
@[simp] theorem ag59 : isAggB Try.prog 59 = true := by kernel_rfl
@[simp] theorem by59 : byOk Try.prog 59 = true := by kernel_rfl
attribute [simp] Try.eqGuardType59
@[simp] theorem ze59 : zerOf Try.prog 59 = some (arC (iRow .i64) (zerosI 8)) := by kernel_rfl
attribute [simp] Try.underlying61
@[simp] theorem sz61 : szOf Try.prog 61 = some 3 := by kernel_rfl
@[simp] theorem ag61 : isAggB Try.prog 61 = true := by kernel_rfl
@[simp] theorem by61 : byOk Try.prog 61 = true := by kernel_rfl
attribute [simp] Try.eqGuardType61
attribute [simp] Try.stoodInHeld61
@[simp] theorem ze61 : zerOf Try.prog 61 = some ([.d (.int .i64 0), .d (.bool false), .d (.bool false)]) := by kernel_rfl
attribute [simp] Try.underlying63
@[simp] theorem sz63 : szOf Try.prog 63 = some 2 := by kernel_rfl
@[simp] theorem ag63 : isAggB Try.prog 63 = true := by kernel_rfl
@[simp] theorem by63 : byOk Try.prog 63 = true := by kernel_rfl
attribute [simp] Try.eqGuardType63
attribute [simp] Try.stoodInHeld63
@[simp] theorem ze63 : zerOf Try.prog 63 = some ([.d (.int .i64 0), .d (.int .i64 0)]) := by kernel_rfl
attribute [simp] Try.underlying67
@[simp] theorem sz67 : szOf Try.prog 67 = some 1 := by kernel_rfl
@[simp] theorem ag67 : isAggB Try.prog 67 = false := by kernel_rfl
@[simp] theorem by67 : byOk Try.prog 67 = true := by kernel_rfl
@[simp] theorem ze67 : zerOf Try.prog 67 = some ([.nilS]) := by kernel_rfl
attribute [simp] Try.underlying70
@[simp] theorem sz70 : szOf Try.prog 70 = some 1 := by kernel_rfl
@[simp] theorem ag70 : isAggB Try.prog 70 = false := by kernel_rfl
@[simp] theorem by70 : byOk Try.prog 70 = true := by kernel_rfl
@[simp] theorem ze70 : zerOf Try.prog 70 = some ([.nilS]) := by kernel_rfl
attribute [simp] Try.underlying76
@[simp] theorem sz76 : szOf Try.prog 76 = some 4 := by kernel_rfl
@[simp] theorem ag76 : isAggB Try.prog 76 = true := by kernel_rfl
@[simp] theorem by76 : byOk Try.prog 76 = true := by kernel_rfl
attribute [simp] Try.eqGuardType76
@[simp] theorem ze76 : zerOf Try.prog 76 = some ([.d (.int .i64 0), .nilS, .d (.int .i64 0), .nilS]) := by kernel_rfl
attribute [simp] Try.underlying77
@[simp] theorem sz77 : szOf Try.prog 77 = some 6 := by kernel_rfl
@[simp] theorem ag77 : isAggB Try.prog 77 = true := by kernel_rfl
@[simp] theorem by77 : byOk Try.prog 77 = true := by kernel_rfl
attribute [simp] Try.eqGuardType77
@[simp] theorem ze77 : zerOf Try.prog 77 = some ([.d (.int .i64 0), .d (.int .i64 0), .nilS, .d (.int .i64 0), .d (.int .i64 0), .nilS]) := by kernel_rfl
attribute [simp] Try.underlying78
@[simp] theorem sz78 : szOf Try.prog 78 = some 4 := by kernel_rfl
@[simp] theorem ag78 : isAggB Try.prog 78 = true := by kernel_rfl
@[simp] theorem by78 : byOk Try.prog 78 = true := by kernel_rfl
attribute [simp] Try.eqGuardType78
@[simp] theorem ze78 : zerOf Try.prog 78 = some ([.d (.int .i64 0), .d (.int .i64 0), .d (.int .i64 0), .d (.int .i64 0)]) := by kernel_rfl
attribute [simp] Try.underlying80
@[simp] theorem sz80 : szOf Try.prog 80 = some 3 := by kernel_rfl
@[simp] theorem ag80 : isAggB Try.prog 80 = true := by kernel_rfl
@[simp] theorem by80 : byOk Try.prog 80 = true := by kernel_rfl
attribute [simp] Try.eqGuardType80
@[simp] theorem ze80 : zerOf Try.prog 80 = some ([.nilS, .nilS, .nilS]) := by kernel_rfl
attribute [simp] Try.underlying82
@[simp] theorem sz82 : szOf Try.prog 82 = some 1 := by kernel_rfl
@[simp] theorem ag82 : isAggB Try.prog 82 = false := by kernel_rfl
@[simp] theorem by82 : byOk Try.prog 82 = true := by kernel_rfl
@[simp] theorem ze82 : zerOf Try.prog 82 = some ([.nilS]) := by kernel_rfl
attribute [simp] Try.underlying87
@[simp] theorem sz87 : szOf Try.prog 87 = some 4 := by kernel_rfl
@[simp] theorem ag87 : isAggB Try.prog 87 = true := by kernel_rfl
@[simp] theorem by87 : byOk Try.prog 87 = true := by kernel_rfl
attribute [simp] Try.eqGuardType87
attribute [simp] Try.stoodInHeld87
@[simp] theorem ze87 : zerOf Try.prog 87 = some ([.d (.int .i64 0), .d (.int .i64 0), .d (.int .i64 0), .d (.bool false)]) := by kernel_rfl
attribute [simp] Try.underlying92
@[simp] theorem sz92 : szOf Try.prog 92 = some 9 := by kernel_rfl
@[simp] theorem ag92 : isAggB Try.prog 92 = true := by kernel_rfl
@[simp] theorem by92 : byOk Try.prog 92 = true := by kernel_rfl
attribute [simp] Try.eqGuardType92
@[simp] theorem ze92 : zerOf Try.prog 92 = some ([.d (.int .i64 0), .d (.int .i64 0), .nilS, .d (.int .i64 0), .d (.int .i64 0), .nilS, .d (.int .i64 0), .d (.int .i64 0), .nilS]) := by kernel_rfl
attribute [simp] Try.underlying93
@[simp] theorem sz93 : szOf Try.prog 93 = some 2 := by kernel_rfl
@[simp] theorem ag93 : isAggB Try.prog 93 = true := by kernel_rfl
@[simp] theorem by93 : byOk Try.prog 93 = true := by kernel_rfl
attribute [simp] Try.eqGuardType93
@[simp] theorem ze93 : zerOf Try.prog 93 = some ([.nilS, .nilS]) := by kernel_rfl
attribute [simp] Try.underlying94
@[simp] theorem sz94 : szOf Try.prog 94 = some 3 := by kernel_rfl
@[simp] theorem ag94 : isAggB Try.prog 94 = true := by kernel_rfl
@[simp] theorem by94 : byOk Try.prog 94 = true := by kernel_rfl
attribute [simp] Try.eqGuardType94
@[simp] theorem ze94 : zerOf Try.prog 94 = some ([.nilS, .nilS, .nilS]) := by kernel_rfl
attribute [simp] Try.underlying97
@[simp] theorem sz97 : szOf Try.prog 97 = some 3 := by kernel_rfl
@[simp] theorem ag97 : isAggB Try.prog 97 = true := by kernel_rfl
@[simp] theorem by97 : byOk Try.prog 97 = true := by kernel_rfl
attribute [simp] Try.eqGuardType97
@[simp] theorem ze97 : zerOf Try.prog 97 = some ([.nilS, .nilS, .nilS]) := by kernel_rfl
attribute [simp] Try.underlying107
@[simp] theorem sz107 : szOf Try.prog 107 = some 1 := by kernel_rfl
@[simp] theorem ag107 : isAggB Try.prog 107 = false := by kernel_rfl
@[simp] theorem by107 : byOk Try.prog 107 = true := by kernel_rfl
@[simp] theorem ze107 : zerOf Try.prog 107 = some ([.undef]) := by kernel_rfl
attribute [simp] Try.underlying109
@[simp] theorem sz109 : szOf Try.prog 109 = some 1 := by kernel_rfl
@[simp] theorem ag109 : isAggB Try.prog 109 = false := by kernel_rfl
@[simp] theorem by109 : byOk Try.prog 109 = true := by kernel_rfl
@[simp] theorem ze109 : zerOf Try.prog 109 = some ([.d .nilp]) := by kernel_rfl
attribute [simp] Try.underlying111
@[simp] theorem sz111 : szOf Try.prog 111 = some 1 := by kernel_rfl
@[simp] theorem ag111 : isAggB Try.prog 111 = false := by kernel_rfl
@[simp] theorem by111 : byOk Try.prog 111 = true := by kernel_rfl
@[simp] theorem ze111 : zerOf Try.prog 111 = some ([.undef]) := by kernel_rfl
attribute [simp] Try.underlying113
@[simp] theorem sz113 : szOf Try.prog 113 = some 1 := by kernel_rfl
@[simp] theorem ag113 : isAggB Try.prog 113 = false := by kernel_rfl
@[simp] theorem by113 : byOk Try.prog 113 = true := by kernel_rfl
@[simp] theorem ze113 : zerOf Try.prog 113 = some ([.d .nilp]) := by kernel_rfl
attribute [simp] Try.underlying119
@[simp] theorem sz119 : szOf Try.prog 119 = some 1 := by kernel_rfl
@[simp] theorem ag119 : isAggB Try.prog 119 = false := by kernel_rfl
@[simp] theorem by119 : byOk Try.prog 119 = true := by kernel_rfl
@[simp] theorem ze119 : zerOf Try.prog 119 = some ([.d .nilp]) := by kernel_rfl
attribute [simp] Try.underlying123
@[simp] theorem sz123 : szOf Try.prog 123 = some 8 := by kernel_rfl
@[simp] theorem ag123 : isAggB Try.prog 123 = true := by kernel_rfl
@[simp] theorem by123 : byOk Try.prog 123 = true := by kernel_rfl
attribute [simp] Try.eqGuardType123
attribute [simp] Try.stoodInHeld123
@[simp] theorem ze123 : zerOf Try.prog 123 = some ([.d (.int .i64 0), .nilS, .d (.int .i64 0), .d (.int .i64 0), .nilS, .nilS, .nilS, .nilS]) := by kernel_rfl
attribute [simp] Try.underlying124
@[simp] theorem sz124 : szOf Try.prog 124 = some 1 := by kernel_rfl
@[simp] theorem ag124 : isAggB Try.prog 124 = false := by kernel_rfl
@[simp] theorem by124 : byOk Try.prog 124 = true := by kernel_rfl
@[simp] theorem ze124 : zerOf Try.prog 124 = some ([.undef]) := by kernel_rfl
attribute [simp] Try.underlying130
@[simp] theorem sz130 : szOf Try.prog 130 = some 1 := by kernel_rfl
@[simp] theorem ag130 : isAggB Try.prog 130 = false := by kernel_rfl
@[simp] theorem by130 : byOk Try.prog 130 = true := by kernel_rfl
@[simp] theorem ze130 : zerOf Try.prog 130 = some ([.d (.int .u64 0)]) := by kernel_rfl
attribute [simp] Try.underlying142
@[simp] theorem sz142 : szOf Try.prog 142 = some 1 := by kernel_rfl
@[simp] theorem ag142 : isAggB Try.prog 142 = false := by kernel_rfl
@[simp] theorem by142 : byOk Try.prog 142 = true := by kernel_rfl
@[simp] theorem ze142 : zerOf Try.prog 142 = some ([.d (.int .i64 0)]) := by kernel_rfl
attribute [simp] Try.underlying151
@[simp] theorem sz151 : szOf Try.prog 151 = some 1 := by kernel_rfl
@[simp] theorem ag151 : isAggB Try.prog 151 = false := by kernel_rfl
@[simp] theorem by151 : byOk Try.prog 151 = true := by kernel_rfl
@[simp] theorem ze151 : zerOf Try.prog 151 = some ([.d (.int .u32 0)]) := by kernel_rfl
attribute [simp] Try.underlying153
@[simp] theorem sz153 : szOf Try.prog 153 = some 1 := by kernel_rfl
@[simp] theorem ag153 : isAggB Try.prog 153 = false := by kernel_rfl
@[simp] theorem by153 : byOk Try.prog 153 = true := by kernel_rfl
@[simp] theorem ze153 : zerOf Try.prog 153 = some ([.d (.int .u64 0)]) := by kernel_rfl
attribute [simp] Try.underlying161
@[simp] theorem sz161 : szOf Try.prog 161 = some 1 := by kernel_rfl
@[simp] theorem ag161 : isAggB Try.prog 161 = false := by kernel_rfl
@[simp] theorem by161 : byOk Try.prog 161 = true := by kernel_rfl
@[simp] theorem ze161 : zerOf Try.prog 161 = some ([.d (.int .u64 0)]) := by kernel_rfl
attribute [simp] Try.underlying165
@[simp] theorem sz165 : szOf Try.prog 165 = some 1 := by kernel_rfl
@[simp] theorem ag165 : isAggB Try.prog 165 = false := by kernel_rfl
@[simp] theorem by165 : byOk Try.prog 165 = true := by kernel_rfl
@[simp] theorem ze165 : zerOf Try.prog 165 = some ([.d .nilp]) := by kernel_rfl
attribute [simp] Try.underlying167
@[simp] theorem sz167 : szOf Try.prog 167 = some 1 := by kernel_rfl
@[simp] theorem ag167 : isAggB Try.prog 167 = false := by kernel_rfl
@[simp] theorem by167 : byOk Try.prog 167 = true := by kernel_rfl
@[simp] theorem ze167 : zerOf Try.prog 167 = some ([.d .nilp]) := by kernel_rfl
end Go.Vl
