/- The value logic: the rewrite rules that evaluate a state, for mirrors. Conditions: none. -/
import Derived.Test.YtbnfogbfphakmaaGreatDoorVmN
import Derived.Test.YtbnfogbfphakmaaGreatDoorVmY
import Derived.Test.YtbnfogbfphakmaaGreatDoorVmZb
import Derived.Test.YtbnfogbfphakmaaGreatDoorVmOa
import Derived.Test.YtbnfogbfphakmaaGreatDoorVmZm
set_option linter.unusedSimpArgs false
set_option linter.unusedVariables false
namespace Go.Vl
attribute [simp] LG PM LH PN F9 NC ND NE PO PP AH B2 Qc DJ
attribute [simp] Qd Qe Y3 NF arC Qf TC
attribute [simp 2000] Wm TE
attribute [simp] TF TG Qk Ql TH Wn
attribute [simp] AV.ren AV.renL St.ren KD TD KE Qj nvE nvL
attribute [simp] F8 ddp kpE St.kp rk PL QY Bc EZ D4 alL alE chE I2 I4 I3 PH Ew DO FG bsV stV PG atE onL Eff.on A1 Bu
attribute [simp] En QB QC Sw Sx Is WK NI Qq Qr Qv MJ Qo Qp PT PU
attribute [simp] TK PV PW NJ Qs Qt Qu TL B5
attribute [simp 2000] Y5
end Go.Vl
