/- A part of the proof: symbolic evaluation of the program's functions, proved sound against the model; no condition. -/
import Derived.Test.YtofldhooanikcaaEvFD
namespace Go.Proofs.Ytofldhooanikcaa
open Go Go.RowKit Go.Ev
set_option linter.unusedSimpArgs false
set_option linter.unusedVariables false
set_option maxRecDepth 20000
theorem walk18 {Phi : Nat → Option Ctr} (P19 : Phi 19 = some CSd) (P20 : Phi 20 = some CEx) (P33 : Phi 33 = some CCt) (P34 : Phi 34 = some CMv) (z : Zn) (s : Sp) (rs : List Int) (ks : List Bool) : evC Phi (noI) rc18 ⟨initS [z.av, s.av, .lst [.int .i64 0] (i64s rs), .lst [.bool false] (bls ks)], initM false []⟩ (kRet rv18 (.tup [(stp z s rs ks).av, .int .i64 (stpE z s rs ks)]) false []) := by
  simp only [rc18, Zn.av, Sp.av, initM_f, rv18, evC_seq, evC_region, eo_box, evG_no, Option.getD_some, ev_box, av_t, initS_at, List.getD_cons_zero, gv_agg, bind1_some', boxR_eq, cells_agg, List.length_cons, List.length_nil, Nat.zero_add, Nat.reduceAdd, if_true, bxO_some, Nat.reduceMul, goOp_some, put_n, killB_cells, List.map_cons, kill0_lst, kill0_int, List.map_nil, upd_at, Nat.reduceEqDiff, killS_at, List.getD_cons_succ, kill3_agg, if_false, eo_alloc, ev_alloc, eo_mov, ev_mov, av_c, gv_int, un1_mov, put_q, evOps_nil, kEnd_at, hasG_no, hasG_nil, kEndB_f, kSeq_n, eo_load, ev_load, kill3_ptr, gv_ptr, load_ptr, updM_at, killM_at, killO_none, killO_some, ldB_cells, valOf_agg, Nat.reduceLeDiff, decide_true, valB_true, List.drop_zero, List.take_succ_cons, List.take_zero, ldV_some, eo_call, P19, CSd, evCl_mk, ev_call, avs_cons, avs_nil, consO_some, clO_some, call_pure, lends_cons, lend1_agg, lendC_cons, lendA_lst, lendA_int, lendC_nil, consL_some', List.nil_append, aggL_some, lends_nil, callN_some, decU_u8s, and_self, Zn.eta, callP_some, c2_bool, flat2_bool, backOK_nil, Bool.and_self, clQ_t, eo_not, ev_not, gv_bool, un1_not, evC_cond, eo_build, ev_build, fillA_nil, blO_some, eo_store, ar_t, vwsT_ptr, frzL_nil, goF_eq, Option.getD_none, ev_store, bind2_some', store_ptr, stB_cells, stC_true, setC_cons, List.set_cons_zero, List.set_cons_succ, setC_nil, put_s, evC_ret, kSeq_r, kRet_r, retOK_eq, retL_cons, retV_c, rvP_ptr, rvB_cells, retV_t, retL_nil, lkR_two, lkVs_cons, lk1_agg, lkAs_cons, lk0_int, lkAs_nil, lk1_int, lkVs_nil, lkT_f, applyL_nil, retOK_f, rtO_some, resV_two, leVs_cons, leV1_agg, leAs_cons, leA_int, leAs_nil, and_true, leV1_int, leVs_nil, knowL_nil, askL_nil, evC_skip, kill3_lst, gv_lst, eo_len, ev_len, len_lst, i64s_len, eo_faddr, ev_faddr, faddr_ptr, Nat.add_zero, valOf_one, List.getElem?_cons_zero, u8s_len, eo_cmp, ev_cmp, cmp2_some, cmp_neq, toR_some', evG_yes, pathG_bool, gG_some, guardR_q, guardL_nil, gv_gd, List.contains_cons, List.contains_nil, Bool.or_false, List.all_cons, beq_self_eq_true, List.all_nil, gvB_true, bls_len, eo_pick, ev_pick, pick3_some, pickV_bool, Bool.cond_true_left, hasG_yes, kEndB_t, ungdS_at, ungd_ptr, ungd_int, ungd_lst, P20, CEx, lend1_lst, decI_i64s, decB_bls, c2_tup, c1_int, c1_bool, flat2_tup, flat1_int, flat1_bool, gv_tup, eo_extract, ev_extract, un1_extract, List.getElem?_cons_succ, P33, CCt, lend1_int, true_and, c2_agg, c0_int, flat2_agg, flat0_int, askL_cons, P34, CMv, c2_int, flat2_int, cells_int, condK_bool, ungd_bool, knowL_cons]
  refine ⟨fun h => ?_, fun h _ _ => ⟨fun h2 => ?_, fun h2 => ⟨fun h3 => ?_, fun h3 => ?_⟩⟩⟩
  · have e : sd z s = false := by simpa using h
    simp [stp, stpE, e, sp0]
  · have e : sd z s = true := by simpa using h
    have e2 : lenOK z rs ks = false := by
      cases hl : lenOK z rs ks with
      | false => rfl
      | true =>
        exfalso
        simp only [lenOK, Bool.and_eq_true, decide_eq_true_eq] at hl
        simp [hl.1, hl.2] at h2
    simp [stp, stpE, e, e2, sp0]
  · have e : sd z s = true := by simpa using h
    have hx := exOK_iff.mp h3
    have e2 : lenOK z rs ks = true := by simp [lenOK, hx.2.1, hx.2.2.1]
    have e3 : exR z rs ks = exV z rs := by simp [exR, h3]
    rw [e3]
    refine ⟨⟨e, exV_bd z rs⟩, ?_⟩
    simp [stp, stpE, e, e2, h3]
  · have e : sd z s = true := by simpa using h
    have e2 : lenOK z rs ks = true := by
      simp at h2
      simp [lenOK]; omega
    simp [stp, stpE, e, e2, h3]
theorem walk27 {Phi : Nat → Option Ctr} (P29 : Phi 29 = some CSd) (P26 : Phi 26 = some CEx) (P40 : Phi 40 = some CCt) (P43 : Phi 43 = some CTw) (z : Zn) (s : Sp) (rs : List Int) (ks : List Bool) : evC Phi (noI) rc27 ⟨initS [z.av, s.av, .lst [.int .i64 0] (i64s rs), .lst [.bool false] (bls ks)], initM false []⟩ (kRet rv27 (.tup [(stp z s rs ks).av, .int .i64 (stpE z s rs ks)]) false []) := by
  simp only [rc27, Zn.av, Sp.av, initM_f, rv27, evC_seq, evC_region, eo_box, evG_no, Option.getD_some, ev_box, av_t, initS_at, List.getD_cons_zero, gv_agg, bind1_some', boxR_eq, cells_agg, List.length_cons, List.length_nil, Nat.zero_add, Nat.reduceAdd, if_true, bxO_some, Nat.reduceMul, goOp_some, put_n, killB_cells, List.map_cons, kill0_lst, kill0_int, List.map_nil, upd_at, Nat.reduceEqDiff, killS_at, List.getD_cons_succ, kill3_agg, if_false, eo_alloc, ev_alloc, eo_mov, ev_mov, av_c, gv_int, un1_mov, put_q, evOps_nil, kEnd_at, hasG_no, hasG_nil, kEndB_f, kSeq_n, evC_block, eo_load, ev_load, kill3_ptr, gv_ptr, load_ptr, updM_at, killM_at, killO_none, killO_some, ldB_cells, valOf_agg, Nat.reduceLeDiff, decide_true, valB_true, List.drop_zero, List.take_succ_cons, List.take_zero, ldV_some, eo_call, P29, CSd, evCl_mk, ev_call, avs_cons, avs_nil, consO_some, clO_some, call_pure, lends_cons, lend1_agg, lendC_cons, lendA_lst, lendA_int, lendC_nil, consL_some', List.nil_append, aggL_some, lends_nil, callN_some, decU_u8s, and_self, Zn.eta, callP_some, c2_bool, flat2_bool, backOK_nil, Bool.and_self, clQ_t, eo_not, ev_not, gv_bool, un1_not, evC_cond, eo_build, ev_build, fillA_nil, blO_some, eo_store, ar_t, vwsT_ptr, frzL_nil, goF_eq, Option.getD_none, ev_store, bind2_some', store_ptr, stB_cells, stC_true, setC_cons, List.set_cons_zero, List.set_cons_succ, setC_nil, put_s, evC_ret, kBlk_r, kSeq_r, kRet_r, retOK_eq, retL_cons, retV_c, rvP_ptr, rvB_cells, retV_t, retL_nil, lkR_two, lkVs_cons, lk1_agg, lkAs_cons, lk0_int, lkAs_nil, lk1_int, lkVs_nil, lkT_f, applyL_nil, retOK_f, rtO_some, resV_two, leVs_cons, leV1_agg, leAs_cons, leA_int, leAs_nil, and_true, leV1_int, leVs_nil, knowL_nil, askL_nil, kill3_lst, gv_lst, eo_len, ev_len, len_lst, i64s_len, eo_faddr, ev_faddr, faddr_ptr, Nat.add_zero, valOf_one, List.getElem?_cons_zero, u8s_len, eo_cmp, ev_cmp, cmp2_some, cmp_neq, toR_some', evG_yes, pathG_bool, gG_some, guardR_q, guardL_nil, gv_gd, List.contains_cons, List.contains_nil, Bool.or_false, List.all_cons, beq_self_eq_true, List.all_nil, gvB_true, bls_len, eo_pick, ev_pick, pick3_some, pickV_bool, Bool.cond_true_left, hasG_yes, kEndB_t, ungdS_at, ungd_ptr, ungd_int, evC_skip, kBlk_n, ungd_lst, P26, CEx, lend1_lst, decI_i64s, decB_bls, c2_tup, c1_int, c1_bool, flat2_tup, flat1_int, flat1_bool, gv_tup, eo_extract, ev_extract, un1_extract, List.getElem?_cons_succ, P40, CCt, lend1_int, true_and, c2_agg, c0_int, flat2_agg, flat0_int, askL_cons, P43, CTw, c2_int, flat2_int, cells_int, condK_bool, ungd_bool, knowL_cons]
  refine ⟨fun h => ?_, fun h _ _ => ⟨fun h2 => ?_, fun h2 => ⟨fun h3 => ?_, fun h3 => ?_⟩⟩⟩
  · have e : sd z s = false := by simpa using h
    simp [stp, stpE, e, sp0]
  · have e : sd z s = true := by simpa using h
    have e2 : lenOK z rs ks = false := by
      cases hl : lenOK z rs ks with
      | false => rfl
      | true =>
        exfalso
        simp only [lenOK, Bool.and_eq_true, decide_eq_true_eq] at hl
        simp [hl.1, hl.2] at h2
    simp [stp, stpE, e, e2, sp0]
  · have e : sd z s = true := by simpa using h
    have hx := exOK_iff.mp h3
    have e2 : lenOK z rs ks = true := by simp [lenOK, hx.2.1, hx.2.2.1]
    have e3 : exR z rs ks = exV z rs := by simp [exR, h3]
    rw [e3]
    refine ⟨⟨e, exV_bd z rs⟩, ?_⟩
    simp [stp, stpE, e, e2, h3]
  · have e : sd z s = true := by simpa using h
    have e2 : lenOK z rs ks = true := by
      simp at h2
      simp [lenOK]; omega
    simp [stp, stpE, e, e2, h3]
end Go.Proofs.Ytofldhooanikcaa
