/- The facts on the types of this translation that the walks use. Conditions: none. -/
import Derived.Test.YtnnipdjbiblekaaVmV
import Derived.Test.YtnnipdjbiblekaaProg
import Derived.KernelRfl
set_option linter.unusedSimpArgs false
set_option linter.unusedVariables false
namespace Go.Vl
open Go Go.Proofs
theorem fol : Try.prog.follows .mixedOrders = true := by kernel_rfl
attribute [simp] Try.underlying3
@[simp] theorem sz3 : szOf Try.prog 3 = some 1 := by kernel_rfl
@[simp] theorem ag3 : isAggB Try.prog 3 = false := by kernel_rfl
@[simp] theorem by3 : byOk Try.prog 3 = true := by kernel_rfl
@[simp] theorem ze3 : zerOf Try.prog 3 = some ([.d (.int .i64 0)]) := by kernel_rfl
attribute [simp] Try.underlying4
@[simp] theorem sz4 : szOf Try.prog 4 = some 1 := by kernel_rfl
@[simp] theorem ag4 : isAggB Try.prog 4 = false := by kernel_rfl
@[simp] theorem by4 : byOk Try.prog 4 = true := by kernel_rfl
@[simp] theorem ze4 : zerOf Try.prog 4 = some ([.d (.bool false)]) := by kernel_rfl
attribute [simp] Try.underlying5
@[simp] theorem sz5 : szOf Try.prog 5 = some 1 := by kernel_rfl
@[simp] theorem ag5 : isAggB Try.prog 5 = false := by kernel_rfl
@[simp] theorem by5 : byOk Try.prog 5 = true := by kernel_rfl
@[simp] theorem ze5 : zerOf Try.prog 5 = some ([.d (.int .u8 0)]) := by kernel_rfl
attribute [simp] Try.underlying9
@[simp] theorem sz9 : szOf Try.prog 9 = some 1 := by kernel_rfl
@[simp] theorem ag9 : isAggB Try.prog 9 = false := by kernel_rfl
@[simp] theorem by9 : byOk Try.prog 9 = true := by kernel_rfl
@[simp] theorem ze9 : zerOf Try.prog 9 = some ([.d (.str .empty)]) := by kernel_rfl
attribute [simp] Try.underlying22
@[simp] theorem sz22 : szOf Try.prog 22 = some 1 := by kernel_rfl
@[simp] theorem ag22 : isAggB Try.prog 22 = false := by kernel_rfl
@[simp] theorem by22 : byOk Try.prog 22 = true := by kernel_rfl
@[simp] theorem ze22 : zerOf Try.prog 22 = some ([.nilS]) := by kernel_rfl
attribute [simp] Try.underlying24
@[simp] theorem sz24 : szOf Try.prog 24 = some 1 := by kernel_rfl
@[simp] theorem ag24 : isAggB Try.prog 24 = false := by kernel_rfl
@[simp] theorem by24 : byOk Try.prog 24 = true := by kernel_rfl
@[simp] theorem ze24 : zerOf Try.prog 24 = some ([.d .nilp]) := by kernel_rfl
attribute [simp] Try.underlying26
@[simp] theorem sz26 : szOf Try.prog 26 = some 2 := by kernel_rfl
@[simp] theorem ag26 : isAggB Try.prog 26 = true := by kernel_rfl
@[simp] theorem by26 : byOk Try.prog 26 = true := by kernel_rfl
attribute [simp] Try.eqGuardType26
attribute [simp] Try.stoodInHeld26
@[simp] theorem ze26 : zerOf Try.prog 26 = some ([.nilS, .d (.int .i64 0)]) := by kernel_rfl
attribute [simp] Try.underlying27
@[simp] theorem sz27 : szOf Try.prog 27 = some 1 := by kernel_rfl
@[simp] theorem ag27 : isAggB Try.prog 27 = false := by kernel_rfl
@[simp] theorem by27 : byOk Try.prog 27 = true := by kernel_rfl
@[simp] theorem ze27 : zerOf Try.prog 27 = some ([.nilS]) := by kernel_rfl
attribute [simp] Try.underlying29
@[simp] theorem sz29 : szOf Try.prog 29 = some 2 := by kernel_rfl
@[simp] theorem ag29 : isAggB Try.prog 29 = true := by kernel_rfl
@[simp] theorem by29 : byOk Try.prog 29 = true := by kernel_rfl
attribute [simp] Try.eqGuardType29
attribute [simp] Try.stoodInHeld29
@[simp] theorem ze29 : zerOf Try.prog 29 = some ([.d (.int .i64 0), .nilS]) := by kernel_rfl
attribute [simp] Try.underlying31
@[simp] theorem sz31 : szOf Try.prog 31 = some 1 := by kernel_rfl
@[simp] theorem ag31 : isAggB Try.prog 31 = false := by kernel_rfl
@[simp] theorem by31 : byOk Try.prog 31 = true := by kernel_rfl
@[simp] theorem ze31 : zerOf Try.prog 31 = some ([.nilS]) := by kernel_rfl
attribute [simp] Try.underlying33
@[simp] theorem sz33 : szOf Try.prog 33 = some 3 := by kernel_rfl
@[simp] theorem ag33 : isAggB Try.prog 33 = true := by kernel_rfl
@[simp] theorem by33 : byOk Try.prog 33 = true := by kernel_rfl
attribute [simp] Try.eqGuardType33
attribute [simp] Try.stoodInHeld33
@[simp] theorem ze33 : zerOf Try.prog 33 = some ([.d (.int .i64 0), .d (.int .i64 0), .nilS]) := by kernel_rfl
attribute [simp] Try.underlying34
@[simp] theorem sz34 : szOf Try.prog 34 = some 1 := by kernel_rfl
@[simp] theorem ag34 : isAggB Try.prog 34 = false := by kernel_rfl
@[simp] theorem by34 : byOk Try.prog 34 = true := by kernel_rfl
@[simp] theorem ze34 : zerOf Try.prog 34 = some ([.d (.int .i64 0)]) := by kernel_rfl
attribute [simp] Try.underlying37
@[simp] theorem sz37 : szOf Try.prog 37 = some 1 := by kernel_rfl
@[simp] theorem ag37 : isAggB Try.prog 37 = false := by kernel_rfl
@[simp] theorem by37 : byOk Try.prog 37 = true := by kernel_rfl
@[simp] theorem ze37 : zerOf Try.prog 37 = some ([.nilS]) := by kernel_rfl
attribute [simp] Try.underlying41
@[simp] theorem sz41 : szOf Try.prog 41 = some 1 := by kernel_rfl
@[simp] theorem ag41 : isAggB Try.prog 41 = true := by kernel_rfl
@[simp] theorem by41 : byOk Try.prog 41 = true := by kernel_rfl
attribute [simp] Try.eqGuardType41
attribute [simp] Try.stoodInHeld41
@[simp] theorem ze41 : zerOf Try.prog 41 = some ([.d (.int .i64 0)]) := by kernel_rfl
attribute [simp] Try.underlying48
@[simp] theorem sz48 : szOf Try.prog 48 = some 1 := by kernel_rfl
@[simp] theorem ag48 : isAggB Try.prog 48 = false := by kernel_rfl
@[simp] theorem by48 : byOk Try.prog 48 = true := by kernel_rfl
@[simp] theorem ze48 : zerOf Try.prog 48 = some ([.nilS]) := by kernel_rfl
attribute [simp] Try.underlying51
@[simp] theorem sz51 : szOf Try.prog 51 = some 1 := by kernel_rfl
@[simp] theorem ag51 : isAggB Try.prog 51 = false := by kernel_rfl
@[simp] theorem by51 : byOk Try.prog 51 = true := by kernel_rfl
@[simp] theorem ze51 : zerOf Try.prog 51 = some ([.nilS]) := by kernel_rfl
attribute [simp] Try.underlying63
@[simp] theorem sz63 : szOf Try.prog 63 = some 3 := by kernel_rfl
@[simp] theorem ag63 : isAggB Try.prog 63 = true := by kernel_rfl
@[simp] theorem by63 : byOk Try.prog 63 = true := by kernel_rfl
attribute [simp] Try.eqGuardType63
attribute [simp] Try.stoodInHeld63
@[simp] theorem ze63 : zerOf Try.prog 63 = some ([.d (.int .i64 0), .d (.bool false), .d (.bool false)]) := by kernel_rfl
attribute [simp] Try.underlying69
@[simp] theorem sz69 : szOf Try.prog 69 = some 3 := by kernel_rfl
@[simp] theorem ag69 : isAggB Try.prog 69 = true := by kernel_rfl
@[simp] theorem by69 : byOk Try.prog 69 = true := by kernel_rfl
attribute [simp] Try.eqGuardType69
attribute [simp] Try.stoodInHeld69
@[simp] theorem ze69 : zerOf Try.prog 69 = some ([.d (.bool false), .d (.int .i64 0), .d (.int .i64 0)]) := by kernel_rfl
attribute [simp] Try.underlying72
@[simp] theorem sz72 : szOf Try.prog 72 = some 1 := by kernel_rfl
@[simp] theorem ag72 : isAggB Try.prog 72 = false := by kernel_rfl
@[simp] theorem by72 : byOk Try.prog 72 = true := by kernel_rfl
@[simp] theorem ze72 : zerOf Try.prog 72 = some ([.nilS]) := by kernel_rfl
attribute [simp] Try.underlying76
@[simp] theorem sz76 : szOf Try.prog 76 = some 2 := by kernel_rfl
@[simp] theorem ag76 : isAggB Try.prog 76 = true := by kernel_rfl
@[simp] theorem by76 : byOk Try.prog 76 = true := by kernel_rfl
attribute [simp] Try.eqGuardType76
attribute [simp] Try.stoodInHeld76
@[simp] theorem ze76 : zerOf Try.prog 76 = some ([.d (.int .i64 0), .d (.int .i64 0)]) := by kernel_rfl
attribute [simp] Try.underlying78
@[simp] theorem sz78 : szOf Try.prog 78 = some 7 := by kernel_rfl
@[simp] theorem ag78 : isAggB Try.prog 78 = true := by kernel_rfl
@[simp] theorem by78 : byOk Try.prog 78 = true := by kernel_rfl
attribute [simp] Try.eqGuardType78
attribute [simp] Try.stoodInHeld78
@[simp] theorem ze78 : zerOf Try.prog 78 = some ([.d (.int .i64 0), .d (.int .i64 0), .nilS, .d (.int .i64 0), .d (.int .i64 0), .d (.int .i64 0), .d (.int .i64 0)]) := by kernel_rfl
attribute [simp] Try.underlying80
@[simp] theorem sz80 : szOf Try.prog 80 = some 1 := by kernel_rfl
@[simp] theorem ag80 : isAggB Try.prog 80 = false := by kernel_rfl
@[simp] theorem by80 : byOk Try.prog 80 = true := by kernel_rfl
@[simp] theorem ze80 : zerOf Try.prog 80 = some ([.d .nilp]) := by kernel_rfl
attribute [simp] Try.underlying84
@[simp] theorem sz84 : szOf Try.prog 84 = some 8 := by kernel_rfl
@[simp] theorem ag84 : isAggB Try.prog 84 = true := by kernel_rfl
@[simp] theorem by84 : byOk Try.prog 84 = true := by kernel_rfl
attribute [simp] Try.eqGuardType84
attribute [simp] Try.stoodInHeld84
@[simp] theorem ze84 : zerOf Try.prog 84 = some ([.d (.int .i64 0), .nilS, .d (.int .i64 0), .d (.int .i64 0), .nilS, .nilS, .nilS, .nilS]) := by kernel_rfl
attribute [simp] Try.underlying88
@[simp] theorem sz88 : szOf Try.prog 88 = some 1 := by kernel_rfl
@[simp] theorem ag88 : isAggB Try.prog 88 = false := by kernel_rfl
@[simp] theorem by88 : byOk Try.prog 88 = true := by kernel_rfl
@[simp] theorem ze88 : zerOf Try.prog 88 = some ([.undef]) := by kernel_rfl
attribute [simp] Try.underlying93
@[simp] theorem sz93 : szOf Try.prog 93 = some 4 := by kernel_rfl
@[simp] theorem ag93 : isAggB Try.prog 93 = true := by kernel_rfl
@[simp] theorem by93 : byOk Try.prog 93 = true := by kernel_rfl
attribute [simp] Try.eqGuardType93
attribute [simp] Try.stoodInHeld93
@[simp] theorem ze93 : zerOf Try.prog 93 = some ([.d (.int .i64 0), .d (.int .i64 0), .d (.int .i64 0), .d (.bool false)]) := by kernel_rfl
attribute [simp] Try.underlying94
@[simp] theorem sz94 : szOf Try.prog 94 = some 1 := by kernel_rfl
@[simp] theorem ag94 : isAggB Try.prog 94 = false := by kernel_rfl
@[simp] theorem by94 : byOk Try.prog 94 = true := by kernel_rfl
@[simp] theorem ze94 : zerOf Try.prog 94 = some ([.undef]) := by kernel_rfl
attribute [simp] Try.underlying96
@[simp] theorem sz96 : szOf Try.prog 96 = some 1 := by kernel_rfl
@[simp] theorem ag96 : isAggB Try.prog 96 = false := by kernel_rfl
@[simp] theorem by96 : byOk Try.prog 96 = true := by kernel_rfl
@[simp] theorem ze96 : zerOf Try.prog 96 = some ([.undef]) := by kernel_rfl
attribute [simp] Try.underlying98
@[simp] theorem sz98 : szOf Try.prog 98 = some 1 := by kernel_rfl
@[simp] theorem ag98 : isAggB Try.prog 98 = false := by kernel_rfl
@[simp] theorem by98 : byOk Try.prog 98 = true := by kernel_rfl
@[simp] theorem ze98 : zerOf Try.prog 98 = some ([.d (.int .u64 0)]) := by kernel_rfl
attribute [simp] Try.underlying101
@[simp] theorem sz101 : szOf Try.prog 101 = some 1 := by kernel_rfl
@[simp] theorem ag101 : isAggB Try.prog 101 = false := by kernel_rfl
@[simp] theorem by101 : byOk Try.prog 101 = true := by kernel_rfl
@[simp] theorem ze101 : zerOf Try.prog 101 = some ([.d .nilp]) := by kernel_rfl
attribute [simp] Try.underlying103
@[simp] theorem sz103 : szOf Try.prog 103 = some 6 := by kernel_rfl
@[simp] theorem ag103 : isAggB Try.prog 103 = true := by kernel_rfl
@[simp] theorem by103 : byOk Try.prog 103 = true := by kernel_rfl
attribute [simp] Try.eqGuardType103
attribute [simp] Try.stoodInHeld103
@[simp] theorem ze103 : zerOf Try.prog 103 = some ([.d (.int .i64 0), .nilS, .d (.int .i64 0), .d (.int .i64 0), .nilS, .nilS]) := by kernel_rfl
attribute [simp] Try.underlying109
@[simp] theorem sz109 : szOf Try.prog 109 = some 1 := by kernel_rfl
@[simp] theorem ag109 : isAggB Try.prog 109 = false := by kernel_rfl
@[simp] theorem by109 : byOk Try.prog 109 = true := by kernel_rfl
@[simp] theorem ze109 : zerOf Try.prog 109 = some ([.undef]) := by kernel_rfl
attribute [simp] Try.underlying122
@[simp] theorem sz122 : szOf Try.prog 122 = some 1 := by kernel_rfl
@[simp] theorem ag122 : isAggB Try.prog 122 = false := by kernel_rfl
@[simp] theorem by122 : byOk Try.prog 122 = true := by kernel_rfl
@[simp] theorem ze122 : zerOf Try.prog 122 = some ([.d (.int .u32 0)]) := by kernel_rfl
attribute [simp] Try.underlying125
@[simp] theorem sz125 : szOf Try.prog 125 = some 1 := by kernel_rfl
@[simp] theorem ag125 : isAggB Try.prog 125 = false := by kernel_rfl
@[simp] theorem by125 : byOk Try.prog 125 = true := by kernel_rfl
@[simp] theorem ze125 : zerOf Try.prog 125 = some ([.d (.int .u64 0)]) := by kernel_rfl
attribute [simp] Try.underlying132
@[simp] theorem sz132 : szOf Try.prog 132 = some 11 := by kernel_rfl
@[simp] theorem ag132 : isAggB Try.prog 132 = true := by kernel_rfl
@[simp] theorem by132 : byOk Try.prog 132 = true := by kernel_rfl
attribute [simp] Try.eqGuardType132
@[simp] theorem ze132 : zerOf Try.prog 132 = some (arC (iRow .i64) (zerosI 11)) := by kernel_rfl
attribute [simp] Try.underlying134
@[simp] theorem sz134 : szOf Try.prog 134 = some 1 := by kernel_rfl
@[simp] theorem ag134 : isAggB Try.prog 134 = false := by kernel_rfl
@[simp] theorem by134 : byOk Try.prog 134 = true := by kernel_rfl
@[simp] theorem ze134 : zerOf Try.prog 134 = some ([.undef]) := by kernel_rfl
attribute [simp] Try.underlying139
@[simp] theorem sz139 : szOf Try.prog 139 = some 1 := by kernel_rfl
@[simp] theorem ag139 : isAggB Try.prog 139 = false := by kernel_rfl
@[simp] theorem by139 : byOk Try.prog 139 = true := by kernel_rfl
@[simp] theorem ze139 : zerOf Try.prog 139 = some ([.d (.int .i64 0)]) := by kernel_rfl
attribute [simp] Try.underlying149
@[simp] theorem sz149 : szOf Try.prog 149 = some 1 := by kernel_rfl
@[simp] theorem ag149 : isAggB Try.prog 149 = false := by kernel_rfl
@[simp] theorem by149 : byOk Try.prog 149 = true := by kernel_rfl
@[simp] theorem ze149 : zerOf Try.prog 149 = some ([.d .nilp]) := by kernel_rfl
attribute [simp] Try.underlying152
@[simp] theorem sz152 : szOf Try.prog 152 = some 1 := by kernel_rfl
@[simp] theorem ag152 : isAggB Try.prog 152 = false := by kernel_rfl
@[simp] theorem by152 : byOk Try.prog 152 = true := by kernel_rfl
@[simp] theorem ze152 : zerOf Try.prog 152 = some ([.d (.int .u64 0)]) := by kernel_rfl
attribute [simp] Try.underlying156
@[simp] theorem sz156 : szOf Try.prog 156 = some 1 := by kernel_rfl
@[simp] theorem ag156 : isAggB Try.prog 156 = false := by kernel_rfl
@[simp] theorem by156 : byOk Try.prog 156 = true := by kernel_rfl
@[simp] theorem ze156 : zerOf Try.prog 156 = some ([.d .nilp]) := by kernel_rfl
attribute [simp] Try.underlying159
@[simp] theorem sz159 : szOf Try.prog 159 = some 1 := by kernel_rfl
@[simp] theorem ag159 : isAggB Try.prog 159 = false := by kernel_rfl
@[simp] theorem by159 : byOk Try.prog 159 = true := by kernel_rfl
@[simp] theorem ze159 : zerOf Try.prog 159 = some ([.d .nilp]) := by kernel_rfl
attribute [simp] Try.underlying161
@[simp] theorem sz161 : szOf Try.prog 161 = some 1 := by kernel_rfl
@[simp] theorem ag161 : isAggB Try.prog 161 = false := by kernel_rfl
@[simp] theorem by161 : byOk Try.prog 161 = true := by kernel_rfl
@[simp] theorem ze161 : zerOf Try.prog 161 = some ([.d .nilp]) := by kernel_rfl
end Go.Vl
