/- A part of the proof: symbolic evaluation of the program's functions, proved sound against the model; no condition. -/
import Derived.Test.YtofldhooanikcaaEvFD
namespace Go.Proofs.Ytofldhooanikcaa
open Go Go.RowKit Go.Ev
set_option linter.unusedSimpArgs false
set_option linter.unusedVariables false
set_option maxRecDepth 20000
theorem walk20 {Phi : Nat → Option Ctr} (P17 : Phi 17 = some CV) (P36 : Phi 36 = some CFlr) (P37 : Phi 37 = some CLim) (z : Zn) (rs : List Int) (ks : List Bool) : evC Phi (I20 z rs ks) rc20 ⟨initS [z.av, .lst [.int .i64 0] (i64s rs), .lst [.bool false] (bls ks)], initM false []⟩ (kRet rv20 (.tup [.int .i64 (exR z rs ks), .bool (exOK z rs ks)]) false []) := by
  simp only [rc20, Zn.av, initM_f, rv20, evC_seq, evC_region, eo_box, evG_no, Option.getD_some, ev_box, av_t, initS_at, List.getD_cons_zero, gv_agg, bind1_some', boxR_eq, cells_agg, List.length_cons, List.length_nil, Nat.zero_add, Nat.reduceAdd, if_true, bxO_some, Nat.reduceMul, goOp_some, put_n, killB_cells, List.map_cons, kill0_lst, kill0_int, List.map_nil, eo_mov, ev_mov, av_c, gv_int, un1_mov, put_q, gv_bool, evOps_nil, kEnd_at, hasG_no, hasG_nil, kEndB_f, kSeq_n, eo_load, ev_load, upd_at, Nat.reduceEqDiff, killS_at, List.getD_cons_succ, if_false, gv_ptr, load_ptr, updM_at, killM_at, killO_none, ldB_cells, valOf_agg, Nat.reduceLeDiff, decide_true, valB_true, List.drop_zero, List.take_succ_cons, List.take_zero, ldV_some, eo_call, P17, CV, evCl_mk, ev_call, avs_cons, avs_nil, consO_some, clO_some, call_pure, lends_cons, lend1_agg, lendC_cons, lendA_lst, lendA_int, lendC_nil, consL_some', List.nil_append, aggL_some, lends_nil, callN_some, decU_u8s, and_self, Zn.eta, callP_some, c2_bool, flat2_bool, backOK_nil, Bool.and_self, clQ_t, eo_not, ev_not, un1_not, evG_yes, pathG_bool, gG_some, kill3_lst, gv_lst, guardR_q, guardL_nil, eo_len, ev_len, gv_gd, List.contains_cons, List.contains_nil, Bool.or_false, List.all_cons, beq_self_eq_true, List.all_nil, gvB_true, len_lst, i64s_len, eo_faddr, ev_faddr, faddr_ptr, Nat.add_zero, valOf_one, List.getElem?_cons_zero, u8s_len, eo_cmp, ev_cmp, cmp2_some, cmp_neq, toR_some', eo_pick, ev_pick, pick3_some, pickV_bool, Bool.cond_true_left, bls_len, hasG_yes, kEndB_t, evC_cond, evC_ret, kSeq_r, kRet_r, retOK_eq, retL_cons, retV_t, ungdS_at, ungd_int, ungd_bool, retL_nil, lkR_two, lkVs_cons, lk1_int, lk1_bool, lkVs_nil, lkT_f, applyL_nil, retOK_f, rtO_some, resV_two, leVs_cons, leV1_int, leV1_bool, leVs_nil, and_true, knowL_nil, askL_nil, evC_skip, ungd_lst, evC_block, evC_loop, I20S, S20, Zn.cs, SL_ge, lkL_cons, lkS_lst, ungd_ptr, lkS_ptr, lkS_int, lkL_nil, lkM_cons, lkB_cells, lkC_cons, lkC0_lst, lkC0_int, lkC_nil, lkM_nil, SL_ge0, leL_cons, leV1_lst, leV1_ptr, leL_nil, true_and, leM_cons, leB_cells, leAs_cons, leA_lst, leA_int, leAs_nil, leM_nil, I20R, SL_st, lookL_cons, lookL_nil, cmp_lss, eo_iaddrS, ev_iaddrS, bind2_some', iaddrS_lst, iasB_true, Int.toNat_natCast, gv_ep, load_ep, getE_i64, getE_bl, kBlk_r, kLoop_r, evC_draw, preK_some, needD_mov, preB_f, needD_call, needD_faddr, needD_load, needD_arith, preK_nil, evD_cons, evDk_some, newOK_none, P37, CLim, lend1_int, c2_int, flat2_int, lookM_cons, lookM_nil, List.getElem?_cons_succ, ev_arith, arith_sub, P36, CFlr, evD_nil, eo_minmax, ev_minmax, mmO_some, mm_max, mm_nil, kBlk_n, eo_arith, arith_add, kLoop_n, I20M, askL_cons, knowD_cons, knowD_nil, pairD_cons, pairOK_eq, newMen_none, Nat.reduceBEq, Bool.or_true, pairB_t, pairD_nil, pairB_f, chkR_eq, pslots_int, optN_some, disjN_nil, newI_none, List.cons_append, pslots_ptr, ar_t, condK_bool, knowL_cons, evC_exit, kSeq_e, kLoop_e, kBlk_e, kBlkB_t, true_imp_iff]
  refine ⟨fun h => ?_, fun h _ => ?_⟩
  · have e : exOK z rs ks = false := by
      cases hh : exOK z rs ks with
      | false => rfl
      | true =>
        exfalso
        have := exOK_iff.mp hh
        simp [this.1, this.2.1, this.2.2.1] at h
    exact ⟨AV.int_inj' (by simp [exR, e]), AV.bool_inj' e.symm⟩
  · obtain ⟨hv, h1, h2⟩ : vz z = true ∧ rs.length = z.sens.length ∧ ks.length = z.sens.length := by
      simp at h
      refine ⟨h.1.1, ?_, ?_⟩ <;> omega
    refine ⟨⟨0, by omega, by intro j hj; omega⟩, ⟨rfl, rfl⟩, ?_⟩
    rintro ⟨i, hi, hk⟩
    dsimp only
    refine ⟨fun hc => ?_, fun hc => ?_⟩
    · have hc := of_decide_eq_true hc
      refine ⟨⟨by omega, by omega⟩, fun _ => ⟨⟨by omega, by omega⟩, fun _ => ⟨fun hn => ?_, fun hn => ?_⟩⟩⟩
      · have e : exOK z rs ks = false := by
          cases hh : exOK z rs ks with
          | false => rfl
          | true =>
            exfalso
            have := (exOK_iff.mp hh).2.2.2 i (by omega)
            rw [this] at hn; cases hn
        exact ⟨AV.int_inj' (by simp [exR, e]), AV.bool_inj' e.symm⟩
      · refine ⟨⟨i + 1, by omega, fun j hj => ?_⟩, ⟨AV.int_inj' (exV_take (by omega)).symm, AV.int_inj' (by rw [wr_in _ (by omega) (by omega)]; rfl)⟩, by dsimp only; omega⟩
        by_cases hji : j = i
        · subst hji; simpa using hn
        · exact hk j (by omega)
    · have hc := of_decide_eq_false hc
      have hil : i = rs.length := by omega
      subst hil
      have e : exOK z rs ks = true := exOK_iff.mpr ⟨hv, h1, h2, fun j hj => hk j (by omega)⟩
      exact ⟨AV.int_inj' (by simp [exR, e]), AV.bool_inj' e.symm⟩
theorem walk26 {Phi : Nat → Option Ctr} (P28 : Phi 28 = some CV) (P41 : Phi 41 = some CLim) (P42 : Phi 42 = some CDwn) (z : Zn) (rs : List Int) (ks : List Bool) : evC Phi (I26 z rs ks) rc26 ⟨initS [z.av, .lst [.int .i64 0] (i64s rs), .lst [.bool false] (bls ks)], initM false []⟩ (kRet rv26 (.tup [.int .i64 (exR z rs ks), .bool (exOK z rs ks)]) false []) := by
  simp only [rc26, Zn.av, initM_f, rv26, evC_seq, evC_region, eo_box, evG_no, Option.getD_some, ev_box, av_t, initS_at, List.getD_cons_zero, gv_agg, bind1_some', boxR_eq, cells_agg, List.length_cons, List.length_nil, Nat.zero_add, Nat.reduceAdd, if_true, bxO_some, Nat.reduceMul, goOp_some, put_n, killB_cells, List.map_cons, kill0_lst, kill0_int, List.map_nil, eo_mov, ev_mov, av_c, gv_int, un1_mov, put_q, gv_bool, evOps_nil, kEnd_at, hasG_no, hasG_nil, kEndB_f, kSeq_n, eo_load, ev_load, upd_at, Nat.reduceEqDiff, killS_at, List.getD_cons_succ, if_false, gv_ptr, load_ptr, updM_at, killM_at, killO_none, ldB_cells, valOf_agg, Nat.reduceLeDiff, decide_true, valB_true, List.drop_zero, List.take_succ_cons, List.take_zero, ldV_some, eo_call, P28, CV, evCl_mk, ev_call, avs_cons, avs_nil, consO_some, clO_some, call_pure, lends_cons, lend1_agg, lendC_cons, lendA_lst, lendA_int, lendC_nil, consL_some', List.nil_append, aggL_some, lends_nil, callN_some, decU_u8s, and_self, Zn.eta, callP_some, c2_bool, flat2_bool, backOK_nil, Bool.and_self, clQ_t, eo_not, ev_not, un1_not, evG_yes, pathG_bool, gG_some, kill3_lst, gv_lst, guardR_q, guardL_nil, eo_len, ev_len, gv_gd, List.contains_cons, List.contains_nil, Bool.or_false, List.all_cons, beq_self_eq_true, List.all_nil, gvB_true, len_lst, i64s_len, eo_faddr, ev_faddr, faddr_ptr, Nat.add_zero, valOf_one, List.getElem?_cons_zero, u8s_len, eo_cmp, ev_cmp, cmp2_some, cmp_neq, toR_some', eo_pick, ev_pick, pick3_some, pickV_bool, Bool.cond_true_left, bls_len, hasG_yes, kEndB_t, evC_cond, evC_ret, kSeq_r, kRet_r, retOK_eq, retL_cons, retV_t, ungdS_at, ungd_int, ungd_bool, retL_nil, lkR_two, lkVs_cons, lk1_int, lk1_bool, lkVs_nil, lkT_f, applyL_nil, retOK_f, rtO_some, resV_two, leVs_cons, leV1_int, leV1_bool, leVs_nil, and_true, knowL_nil, askL_nil, evC_skip, evC_block, evC_loop, I26S, S26, Zn.cs, SL_ge, lkL_cons, ungd_lst, lkS_lst, ungd_ptr, lkS_ptr, lkS_int, lkL_nil, lkM_cons, lkB_cells, lkC_cons, lkC0_lst, lkC0_int, lkC_nil, lkM_nil, SL_ge0, leL_cons, leV1_lst, leV1_ptr, leL_nil, true_and, leM_cons, leB_cells, leAs_cons, leA_lst, leA_int, leAs_nil, leM_nil, I26R, SL_st, lookL_cons, lookL_nil, cmp_lss, eo_iaddrS, ev_iaddrS, bind2_some', iaddrS_lst, iasB_true, Int.toNat_natCast, gv_ep, load_ep, getE_bl, kBlk_r, kLoop_r, evC_draw, preK_some, needD_mov, preB_f, needD_iaddrS, needD_load, needD_call, needD_faddr, needD_arith, needD_minmax, preK_nil, evD_cons, evDk_some, newOK_none, getE_i64, P41, CLim, lend1_int, c2_int, flat2_int, lookM_cons, lookM_nil, List.getElem?_cons_succ, ev_arith, arith_sub, P42, CDwn, ev_minmax, mmO_some, mm_max, mm_nil, evD_nil, kBlk_n, eo_arith, arith_add, kLoop_n, I26M, knowD_cons, knowD_nil, knowL_cons, pairD_cons, pairOK_eq, newMen_none, Nat.reduceBEq, Bool.or_true, pairB_t, pairD_nil, pairB_f, chkR_eq, pslots_int, optN_some, disjN_nil, newI_none, askL_cons, List.cons_append, pslots_ep, pslots_lst, pslots_ptr, ar_t, condK_bool, evC_exit, kSeq_e, kLoop_e, kBlk_e, kBlkB_t, true_imp_iff]
  refine ⟨fun h => ?_, fun h  => ?_⟩
  · have e : exOK z rs ks = false := by
      cases hh : exOK z rs ks with
      | false => rfl
      | true =>
        exfalso
        have := exOK_iff.mp hh
        simp [this.1, this.2.1, this.2.2.1] at h
    exact ⟨AV.int_inj' (by simp [exR, e]), AV.bool_inj' e.symm⟩
  · obtain ⟨hv, h1, h2⟩ : vz z = true ∧ rs.length = z.sens.length ∧ ks.length = z.sens.length := by
      simp at h
      refine ⟨h.1.1, ?_, ?_⟩ <;> omega
    refine ⟨⟨0, by omega, by intro j hj; omega⟩, ⟨rfl, rfl⟩, ?_⟩
    rintro ⟨i, hi, hk⟩
    dsimp only
    refine fun _ => ⟨fun hc => ?_, fun hc => ?_⟩
    · have hc := of_decide_eq_true hc
      refine ⟨⟨by omega, by omega⟩, fun _ => ⟨fun hn => ?_, fun hn => ?_⟩⟩
      · have e : exOK z rs ks = false := by
          cases hh : exOK z rs ks with
          | false => rfl
          | true =>
            exfalso
            have := (exOK_iff.mp hh).2.2.2 i (by omega)
            rw [this] at hn; cases hn
        exact ⟨AV.int_inj' (by simp [exR, e]), AV.bool_inj' e.symm⟩
      · refine ⟨⟨by omega, by omega⟩, by decide, fun _ => ⟨⟨i + 1, by omega, fun j hj => ?_⟩, ⟨AV.int_inj' (exV_take (by omega)).symm, AV.int_inj' (by rw [wr_in _ (by omega) (by omega)]; rfl)⟩, by dsimp only; omega⟩⟩
        by_cases hji : j = i
        · subst hji; simpa using hn
        · exact hk j (by omega)
    · have hc := of_decide_eq_false hc
      have hil : i = rs.length := by omega
      subst hil
      have e : exOK z rs ks = true := exOK_iff.mpr ⟨hv, h1, h2, fun j hj => hk j (by omega)⟩
      exact ⟨AV.int_inj' (by simp [exR, e]), AV.bool_inj' e.symm⟩
theorem walk33 {Phi : Nat → Option Ctr} (P34 : Phi 34 = some CMv) (P35 : Phi 35 = some CTop) (P37 : Phi 37 = some CLim) (P38 : Phi 38 = some CWn) (z : Zn) (s : Sp) (e : Int) (hs : sd z s = true) (he : -100000 ≤ e ∧ e ≤ 100000) : evC Phi (noI) rc33 ⟨initS [z.av, s.av, .int .i64 e], initM false []⟩ (kRet rv33 (ctl z s e).av false []) := by
  simp only [rc33, Zn.av, Sp.av, initM_f, rv33, evC_seq, evC_region, eo_box, evG_no, Option.getD_some, ev_box, av_t, initS_at, List.getD_cons_zero, gv_agg, bind1_some', boxR_eq, cells_agg, List.length_cons, List.length_nil, Nat.zero_add, Nat.reduceAdd, if_true, bxO_some, Nat.reduceMul, goOp_some, put_n, killB_cells, List.map_cons, kill0_lst, kill0_int, List.map_nil, upd_at, Nat.reduceEqDiff, killS_at, List.getD_cons_succ, kill3_agg, if_false, eo_alloc, ev_alloc, evOps_nil, kEnd_at, hasG_no, hasG_nil, kEndB_f, kSeq_n, evC_draw, preK_some, needD_faddr, preB_f, needD_load, needD_mov, needD_arith, needD_call, preK_none, preK_nil, evD_cons, ev_faddr, kill3_ptr, gv_ptr, faddr_ptr, evDk_some, newOK_none, put_q, ev_load, load_ptr, updM_at, killM_at, killO_none, killO_some, ldB_cells, valOf_one, List.getElem?_cons_succ, List.getElem?_cons_zero, ldV_some, ev_mov, kill3_int, gv_int, un1_mov, ev_arith, bind2_some', arith_mul, arith_add, valOf_agg, Nat.reduceLeDiff, decide_true, valB_true, List.drop_zero, List.take_succ_cons, List.take_zero, ev_call, P35, CTop, avs_cons, avs_nil, consO_some, clO_some, call_pure, lends_cons, lend1_agg, lendC_cons, lendA_lst, lendA_int, lendC_nil, consL_some', List.nil_append, aggL_some, lends_nil, callN_some, decU_u8s, and_self, Zn.eta, callP_some, c2_int, flat2_int, backOK_nil, Bool.and_self, clQ_t, P37, CLim, av_c, lend1_int, Option.getD_none, ev_store, store_ptr, cells_int, stB_cells, stC_true, setC_cons, List.set_cons_succ, List.set_cons_zero, setC_nil, put_s, evD_nil, Nat.add_zero, P38, CWn, true_and, P34, CMv, eo_load, eo_store, ar_t, vwsT_ptr, frzL_nil, goF_eq, evC_ret, kRet_r, retOK_eq, retL_cons, retV_c, rvP_ptr, rvB_cells, retL_nil, lkR_one, lk1_agg, lkAs_cons, lk0_int, lkAs_nil, lkT_f, applyL_nil, retOK_f, rtO_some, resV_one, leV1_agg, leAs_cons, leA_int, leAs_nil, and_true, knowL_nil, askL_nil, knowD_cons, knowD_nil, pairD_cons, pairOK_eq, newMen_none, List.contains_cons, Nat.reduceBEq, beq_self_eq_true, List.contains_nil, Bool.or_false, Bool.or_true, pairB_t, pairD_nil, askL_cons, pairB_f, chkR_eq, pslots_int, optN_some, disjN_nil, newI_none, pslots_ptr, pslots_agg, List.cons_append]
  exact ⟨⟨vz_of_sd hs, he⟩, rfl, rfl⟩
theorem walk40 {Phi : Nat → Option Ctr} (P30 : Phi 30 = some CDe) (P41 : Phi 41 = some CLim) (P43 : Phi 43 = some CTw) (P44 : Phi 44 = some CTop) (z : Zn) (s : Sp) (e : Int) (hs : sd z s = true) (he : -100000 ≤ e ∧ e ≤ 100000) : evC Phi (noI) rc40 ⟨initS [z.av, s.av, .int .i64 e], initM false []⟩ (kRet rv40 (ctl z s e).av false []) := by
  simp only [rc40, Zn.av, Sp.av, initM_f, rv40, evC_seq, evC_region, eo_box, evG_no, Option.getD_some, ev_box, av_t, initS_at, List.getD_cons_zero, gv_agg, bind1_some', boxR_eq, cells_agg, List.length_cons, List.length_nil, Nat.zero_add, Nat.reduceAdd, if_true, bxO_some, Nat.reduceMul, goOp_some, put_n, killB_cells, List.map_cons, kill0_lst, kill0_int, List.map_nil, upd_at, Nat.reduceEqDiff, killS_at, List.getD_cons_succ, kill3_agg, if_false, eo_alloc, ev_alloc, evOps_nil, kEnd_at, hasG_no, hasG_nil, kEndB_f, kSeq_n, evC_draw, preK_some, needD_faddr, preB_f, needD_load, needD_mov, needD_arith, needD_call, preK_none, preK_nil, evD_cons, ev_faddr, kill3_ptr, gv_ptr, faddr_ptr, evDk_some, newOK_none, put_q, ev_load, load_ptr, updM_at, killM_at, killO_none, killO_some, ldB_cells, valOf_one, List.getElem?_cons_succ, List.getElem?_cons_zero, ldV_some, ev_mov, kill3_int, gv_int, un1_mov, ev_arith, bind2_some', arith_mul, arith_add, valOf_agg, Nat.reduceLeDiff, decide_true, valB_true, List.drop_zero, List.take_succ_cons, List.take_zero, ev_call, P44, CTop, avs_cons, avs_nil, consO_some, clO_some, call_pure, lends_cons, lend1_agg, lendC_cons, lendA_lst, lendA_int, lendC_nil, consL_some', List.nil_append, aggL_some, lends_nil, callN_some, decU_u8s, and_self, Zn.eta, callP_some, c2_int, flat2_int, backOK_nil, Bool.and_self, clQ_t, P41, CLim, av_c, lend1_int, Option.getD_none, ev_store, store_ptr, cells_int, stB_cells, stC_true, setC_cons, List.set_cons_succ, List.set_cons_zero, setC_nil, put_s, evD_nil, Nat.add_zero, P30, CDe, true_and, P43, CTw, eo_load, eo_store, ar_t, vwsT_ptr, frzL_nil, goF_eq, evC_ret, kRet_r, retOK_eq, retL_cons, retV_c, rvP_ptr, rvB_cells, retL_nil, lkR_one, lk1_agg, lkAs_cons, lk0_int, lkAs_nil, lkT_f, applyL_nil, retOK_f, rtO_some, resV_one, leV1_agg, leAs_cons, leA_int, leAs_nil, and_true, knowL_nil, askL_nil, knowD_cons, knowD_nil, pairD_cons, pairOK_eq, newMen_none, List.contains_cons, Nat.reduceBEq, beq_self_eq_true, List.contains_nil, Bool.or_false, Bool.or_true, pairB_t, pairD_nil, askL_cons, pairB_f, chkR_eq, pslots_int, optN_some, disjN_nil, newI_none, List.cons_append, pslots_agg, pslots_ptr]
  have hv := vz_of_sd hs
  have hb := (vz_iff z).mp hv
  simp only [VZ] at hb
  have ht : topz z = 1000 * (z.most - z.least) := by
    simp only [topz, W]; rw [wr_in (z.most - z.least) (by omega) (by omega), wr_in _ (by omega) (by omega)]
  have hs' : sd z ⟨s.out, lim (IntKind.i64.wrap (s.sum + IntKind.i64.wrap (z.intg * e))) 0 (topz z)⟩ = true := by
    have h2 := lim_bd (IntKind.i64.wrap (s.sum + IntKind.i64.wrap (z.intg * e))) 0 (topz z) (by omega)
    simp only [sd, Bool.and_eq_true, wi, decide_eq_true_eq] at hs ⊢
    exact ⟨hv, hs.2.1, h2⟩
  have hl : lim e (-100000) 100000 = e := by simp only [lim]; omega
  refine ⟨⟨by omega, by omega⟩, AV.int_inj' ?_, rfl⟩
  simp only [dem, hs', if_true, hl]
  rfl
end Go.Proofs.Ytofldhooanikcaa
