/- The value logic: the rewrite rules that evaluate a state, for mirrors. Conditions: none. -/
import Derived.Test.YtkgimfomocpebaaVlN
import Derived.Test.YtkgimfomocpebaaVlX
set_option linter.unusedSimpArgs false
set_option linter.unusedVariables false
namespace Go.Vl
attribute [simp] rowsF_length rowsF_get rowsF_append rowsF_nil rowsF_cons rowsF_take rowsF_drop rowsF_tail rowsF_all rowsF_set iRow bRow sRow slRow
attribute [simp] arD_zero arD_succ arRow arRowA arC arC_wf arC_frz
attribute [simp] AV.ren AV.renL St.ren zerosI_length arC_len arC_at nvE nvL
attribute [simp] ddp kpE St.kp rk effs effO locSt envL envE alL alE chE befC delW atE onL Eff.on boxesOut boxesIn
end Go.Vl
