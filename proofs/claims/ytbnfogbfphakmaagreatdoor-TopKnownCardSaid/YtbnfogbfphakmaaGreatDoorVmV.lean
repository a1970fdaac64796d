/- The value logic: the rewrite rules that evaluate a state, for mirrors. Conditions: none. -/
import Derived.Test.YtbnfogbfphakmaaGreatDoorVmN
import Derived.Test.YtbnfogbfphakmaaGreatDoorVmY
import Derived.Test.YtbnfogbfphakmaaGreatDoorVmZb
import Derived.Test.YtbnfogbfphakmaaGreatDoorVmOa
import Derived.Test.YtbnfogbfphakmaaGreatDoorVmZm
set_option linter.unusedSimpArgs false
set_option linter.unusedVariables false
namespace Go.Vl
attribute [simp] rowsF_length rowsF_get rowsF_append rowsF_nil rowsF_cons rowsF_take rowsF_drop rowsF_tail rowsF_all rowsF_set iRow bRow sRow slRow
attribute [simp] arD_zero arD_succ arRow arRowA arC arC_wf arC_frz
attribute [simp 2000] arC_at arC_atB
attribute [simp] arC_fin arC_out arC_view arC_back arC_ren arC_le
attribute [simp] AV.ren AV.renL St.ren zerosI_length arC_len zerosB_length arC_lenB nvE nvL
attribute [simp] skEf ddp kpE St.kp rk effs effO locSt envL envE alL alE chE cmpB hidW befA befV scrO delO effChk bsV stV delW atE onL Eff.on boxesOut boxesIn
attribute [simp] lookA updA delA lenM mkMA putO hintB tag_kz tag_ka tag_va unpack_d unpack_cons keyB_int keyB_str findM_int findM_str
attribute [simp] le_mTag setR_none delR_none lookR_none mset_nil mget_nil mdel_nil mRow_ap findM
attribute [simp 2000] tag_M
end Go.Vl
