/- The rules by which the walk without memory is reckoned, gathered under one name. No condition. -/
import Derived.Test.YtcedofkenfddkaaDoorPx
import Derived.Attr
namespace Go.Proofs.YtcedofkenfddkaaDoor
set_option linter.unusedVariables false
set_option linter.unusedSimpArgs false
open Go.RowKit
attribute [go_sem] put_some put_none get_mk ev_t ev_c ev_f lkp_cons lkp_nil down_mk pW_sk pW_rg pW_dr pW_sq pW_bk pW_ex pW_rt pW_lp pList_nil pHead_nil pTail_nil pTail_st
attribute [go_sem] pTail_al pTail_bo thenX_n thenX_x thenX_r blockX_n blockX_r blockX_x postF_n postF_r postF_x forget_nil forget_cons qSl_s mtake mdrop flatE PV.v.injEq
attribute [go_sem] exists_eq' exists_eq ne_eq not_false_eq_true not_true_eq_false List.append_eq_nil_iff List.cons_ne_nil postO_n postO_r postOV_r ret_one ret_c ret_m
attribute [go_sem] ret1_s retM_s rvs_nil rvs_cons rvC_s rvg_t rvg_c rvA_b rvB_t rvB_f PV.resD List.all_cons List.all_nil pTail_ap keepL_nil keepL_cons simple1_v simple1_r
attribute [go_sem] own_r pApT_n pApT_p pApT_r pApT_z pCut_r bCt_some bCt_none isBl_v bV_v isInt_v iK_v iV_v isSl_s eV_s binC_v binV_v rng_u faC_b faC_c faV_b faV_c atC_t
attribute [go_sem] atC_f atV_t atV_f ldC_c ldC_b ldF_c ldF_b ldW_c ldW_b ldV_c ldV_b cellsC_agg cellsC_i cellsC_b cellsC_nil cellsC_s cellsC_bx cellsC_fn cellsC_ifc
attribute [go_sem] cellsV_agg cellsV_v cellsV_s cellsV_bx cellsV_fn cellsV_ifc evs_nil evs_cons pW_cd brP_t brP_f gdP_tt gdP_ff gdP_tf gdP_ft gdP_u pkP_t pkP_f eqC_v eqB_v
attribute [go_sem] l_eq2 h_eq2 l_nil h_nil l_nc h_nc l_mm h_mm l_aa h_aa l_ix h_ix l_fl h_fl l_mf h_mf l_mi h_mi l_cl h_cl clP_f nlC_n nlC_i nlB_n nlB_i agC_a agV_a
attribute [go_sem] mfC_nil mfC_cons isB_v isB_sl isB_agg isB_bx isB_cp isB_fn isB_ifc isD_bx isD_fn rng_ok map_at nat_pred nat_sub nat_add mod_small Int.cast_ofNat_Int
attribute [go_sem] Int.natCast_eq_zero List.length_eq_zero_iff decide_true decide_false List.filter_cons List.filter_nil List.contains_cons List.contains_nil Bool.or_false
attribute [go_sem] Bool.false_or Bool.or_true Bool.true_or Bool.and_false Bool.false_and List.any_cons List.any_nil List.mem_map forall_exists_index and_imp
attribute [go_sem] forall_apply_eq_imp_iff₂ List.mem_append List.mem_cons List.not_mem_nil List.mem_singleton or_false or_imp forall_and forall_eq_or_imp bne_self_eq_false
attribute [go_sem] Bool.bne_false Bool.bne_true Bool.false_bne Bool.true_bne beq_self_eq_true okG_b okG_u wq_b wq_u noS_b noS_u pList_some pHead_some l_bin h_bin l_beq
attribute [go_sem] h_beq l_not h_not l_cv h_cv l_fa h_fa l_ia h_ia h_ld l_ln h_ln l_bd h_bd l_bs h_bs l_ldt l_ldf l_mv_t l_mv_c l_mv_f h_mv_t h_mv_c h_mv_f l_pk h_pk l_sc
attribute [go_sem] h_sc bdC_n bdC_s bdV_n bdV_s l_exd h_exd tupC_t tpV_t l_al l_bo stC_b stB_b l_st l_ca caD_r caD_v caD_agg caD_sh caD_z caD_ifc caD_fn h_ca l_ap apT_r
attribute [go_sem] apT_z apO_n apO_c apO_s apH_z h_ap partsC partsV elemsC elemsV intOp intC spl keepOwn isT strip_v strip_agg strip_tup strip_sh strip_z strip_r strip_n
attribute [go_sem] strip_bx strip_cp strip_fn strip_ifc sh_v sh_agg sh_tup sh_sl sh_bx sh_cp sh_fn sh_ifc own_v own_agg own_tup own_sh own_z own_n own_bx own_cp own_fn
attribute [go_sem] own_ifc down_v down_agg down_tup down_sh down_z down_r down_n down_bx down_cp down_fn down_ifc down_und clean_mk clean_v clean_agg clean_tup clean_sh
attribute [go_sem] clean_z clean_bx clean_cp clean_fn clean_ifc clean_und pre_v pre_agg pre_tup pre_sh pre_z pre_bx pre_cp pre_fn pre_ifc pre_und clean_r clean_n clean_p
attribute [go_sem] pre_r pre_n pre_p scO_none scO_some scO_sh scO_z scO_r scO_n strip_p own_p down_p isD_v isD_agg isD_tup isD_sl isD_cp isD_ifc allD_nil allD_cons sub_und
attribute [go_sem] sub_v sub_agg sub_tup sub_ifc sub_cp sub_bx sub_fn sub_sh sub_z sub_r sub_zr subS_def subT_nil' subT_cons' subB_nil' subB_cons_iff subC_nil subC_cons
attribute [go_sem] Value.int.injEq Value.bool.injEq Int.toNat_natCast Int.natCast_nonneg nat_succ wrap_u Int.natCast_pos enumP Value.oneCell' ivp rg ivc natc rgs
attribute [go_sem] List.flatMap_nil List.length_cons List.length_nil List.map_cons List.map_nil List.nil_append List.cons_append List.append_nil List.getElem?_cons_zero
attribute [go_sem] List.getElem?_cons_succ List.getElem?_nil List.take_succ_cons List.take_zero List.drop_succ_cons List.drop_zero List.take_nil List.drop_nil
attribute [go_sem] List.set_cons_zero List.set_cons_succ List.length_map Option.map_some Option.some.injEq Option.isSome_some Option.getD_some decide_eq_true_eq
attribute [go_sem] Bool.and_eq_true Bool.or_eq_true true_and and_true false_and and_false forall_const true_implies false_implies implies_true Bool.true_eq_false
attribute [go_sem] Bool.false_eq_true Bool.not_true Bool.not_false Bool.and_true Bool.true_and Nat.zero_add Nat.add_zero Nat.le_refl Int.ofNat_le Int.ofNat_lt
attribute [go_sem] Int.ofNat_inj forall_eq
attribute [go_sem] shrI_1 nat_half mfB_nil mfB_cons fz_mk fz_v fz_agg fz_tup fz_sl fz_bx fz_cp fz_ifc fz_und fz_fn fz1_bx fz1_v fz1_cp
end Go.Proofs.YtcedofkenfddkaaDoor
