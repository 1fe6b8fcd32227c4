/- A part of the proof: symbolic evaluation of the program's functions, proved sound against the model; no condition. -/
import Derived.Test.YtofldhooanikcaaEvFB
namespace Go.Proofs.Ytofldhooanikcaa
open Go Go.RowKit Go.Ev
set_option linter.unusedSimpArgs false
set_option linter.unusedVariables false
set_option maxRecDepth 20000
theorem walk17 {Phi : Nat → Option Ctr} (P31 : Phi 31 = some CWi) (P32 : Phi 32 = some CWi) (z : Zn) : evC Phi (I17 z) rc17 ⟨initS [z.av], initM false []⟩ (kRet rv17 (.bool (vz z)) false []) := by
  simp only [rc17, Zn.av, initM_f, rv17, evC_seq, evC_region, eo_box, evG_no, Option.getD_some, ev_box, av_t, initS_at, List.getD_cons_zero, gv_agg, bind1_some', boxR_eq, cells_agg, List.length_cons, List.length_nil, Nat.zero_add, Nat.reduceAdd, if_true, bxO_some, Nat.reduceMul, goOp_some, put_n, killB_cells, List.map_cons, kill0_lst, kill0_int, List.map_nil, eo_mov, ev_mov, av_c, gv_bool, un1_mov, put_q, evOps_nil, kEnd_at, hasG_no, hasG_nil, kEndB_f, kSeq_n, eo_faddr, ev_faddr, upd_at, Nat.reduceEqDiff, killS_at, List.getD_cons_succ, if_false, gv_ptr, faddr_ptr, Nat.add_zero, eo_load, ev_load, load_ptr, updM_at, killM_at, killO_none, ldB_cells, valOf_one, List.getElem?_cons_zero, ldV_some, eo_len, ev_len, gv_lst, len_lst, u8s_len, eo_call, P31, CWi, evCl_mk, ev_call, avs_cons, gv_int, avs_nil, consO_some, clO_some, call_pure, lends_cons, lend1_int, lends_nil, consL_some', List.nil_append, callN_some, callP_some, c2_bool, flat2_bool, backOK_nil, Bool.and_self, clQ_t, eo_not, ev_not, un1_not, evG_yes, pathG_bool, gG_some, guardR_q, guardL_nil, gv_gd, List.contains_cons, List.contains_nil, Bool.or_false, List.all_cons, beq_self_eq_true, List.all_nil, gvB_true, List.getElem?_cons_succ, eo_call_g, P32, guardL_cons, pathP_cons, boolOf_bool, pathP_nil, and_true, implies_true, eo_pick, ev_pick, pick3_some, pickV_bool, Bool.cond_true_left, hasG_yes, kEndB_t, evC_cond, evC_ret, kSeq_r, kRet_r, retOK_eq, retL_cons, retV_t, ungdS_at, ungd_bool, retL_nil, lkR_one, lk1_bool, lkT_f, applyL_nil, retOK_f, rtO_some, resV_one, leV1_bool, knowL_nil, askL_nil, evC_skip, ungd_ptr, evC_block, evC_loop, I17S, S17, Zn.cs, SL_ge, lkL_cons, lkS_ptr, lkS_lst, lkS_int, lkL_nil, lkM_cons, lkB_cells, lkC_cons, lkC0_lst, lkC0_int, lkC_nil, lkM_nil, SL_ge0, leL_cons, leV1_ptr, leV1_lst, leV1_int, leL_nil, true_and, leM_cons, leB_cells, leAs_cons, leA_lst, leA_int, leAs_nil, and_self, leM_nil, I17R, SL_st, eo_cmp, ev_cmp, lookL_cons, lookL_nil, cmp2_some, cmp_lss, toR_some', eo_iaddrS, ev_iaddrS, bind2_some', iaddrS_lst, iasB_true, Int.toNat_natCast, gv_ep, load_ep, getE_u8, cmp_gtr, lookM_cons, lookM_nil, eo_arith, ev_arith, arith_sub, cmp_leq, Bool.cond_false_right, kBlk_r, kLoop_r, ungd_junk, kBlk_n, ungd_int, arith_add, kLoop_n, ungd_lst, I17M, ar_t, condK_bool, askL_cons, knowL_cons, evC_exit, kSeq_e, kLoop_e, kBlk_e, kBlkB_t, cmp_geq, true_imp_iff]
  intro hl
  refine ⟨fun h => AV.bool_inj' ?_, fun h _ => ⟨⟨0, by omega, by omega, by intro j hj; omega⟩, rfl, ?_⟩⟩
  · cases hv : vz z with
    | false => rfl
    | true =>
      exfalso
      have hz := (vz_iff z).mp hv
      simp only [VZ] at hz
      simp [wi] at h
      omega
  · have h' : (1 ≤ (z.sens.length : Int) ∧ (z.sens.length : Int) ≤ 8) ∧ (-1000000000000 ≤ z.tgt ∧ z.tgt ≤ 1000000000000) ∧ (0 ≤ z.gain ∧ z.gain ≤ 10000) ∧ (0 ≤ z.intg ∧ z.intg ≤ 10000) := by
      simp [wi] at h; omega
    rintro ⟨i, h0, hi, hs⟩
    dsimp only
    refine ⟨fun h1 => ?_, fun h1 => AV.bool_inj' ?_⟩
    · have h1 := of_decide_eq_true h1
      refine ⟨⟨by omega, by omega⟩, fun _ => ⟨fun h2 => ?_, fun h2 => AV.bool_inj' ?_, fun h2 => ?_⟩⟩
      · have h2 : 0 < (i : Int) := by simpa using h2
        rw [wr_in _ (by omega) (by omega)]; omega
      · simp only [Bool.and_eq_true, decide_eq_true_eq] at h2
        rw [wr_in _ (by omega) (by omega), show ((i : Int) - 1).toNat = i - 1 by omega] at h2
        cases hv : vz z with
        | false => rfl
        | true =>
          exfalso
          have hz := ((vz_iff z).mp hv).2.2.2.2.1
          have := srt_iff.mp hz (i - 1) (by omega)
          rw [show i - 1 + 1 = i by omega] at this
          omega
      · refine ⟨⟨i + 1, by omega, by omega, fun j hj => ?_⟩, AV.int_inj' (by rw [wr_in _ (by omega) (by omega)]; rfl), by dsimp only; omega⟩
        by_cases hj2 : j + 1 < i
        · exact hs j hj2
        · have hj3 : j = i - 1 := by omega
          subst hj3
          simp only [Bool.and_eq_false_iff, decide_eq_false_iff_not] at h2
          rcases h2 with h2 | h2
          · omega
          · rw [wr_in _ (by omega) (by omega), show ((i : Int) - 1).toNat = i - 1 by omega] at h2
            rw [show i - 1 + 1 = i by omega]
            omega
    · have h1 := of_decide_eq_false h1
      have hsr : srt z.sens = true := srt_iff.mpr fun j hj => hs j (by omega)
      rw [Bool.eq_iff_iff, vz_iff]
      simp only [VZ, wi, Bool.and_eq_true, decide_eq_true_eq, hsr, true_and, and_true]
      omega
theorem walk28 {Phi : Nat → Option Ctr} (z : Zn) : evC Phi (I28 z) rc28 ⟨initS [z.av], initM false []⟩ (kRet rv28 (.bool (vz z)) false []) := by
  simp only [rc28, Zn.av, initM_f, rv28, evC_seq, evC_region, eo_box, evG_no, Option.getD_some, ev_box, av_t, initS_at, List.getD_cons_zero, gv_agg, bind1_some', boxR_eq, cells_agg, List.length_cons, List.length_nil, Nat.zero_add, Nat.reduceAdd, if_true, bxO_some, Nat.reduceMul, goOp_some, put_n, killB_cells, List.map_cons, kill0_lst, kill0_int, List.map_nil, eo_mov, ev_mov, av_c, gv_bool, un1_mov, put_q, evOps_nil, kEnd_at, hasG_no, hasG_nil, kEndB_f, kSeq_n, eo_faddr, ev_faddr, upd_at, Nat.reduceEqDiff, killS_at, List.getD_cons_succ, if_false, gv_ptr, faddr_ptr, Nat.add_zero, eo_load, ev_load, load_ptr, updM_at, killM_at, killO_none, ldB_cells, valOf_one, List.getElem?_cons_zero, ldV_some, eo_len, ev_len, gv_lst, len_lst, u8s_len, eo_cmp, ev_cmp, gv_int, cmp2_some, cmp_lss, toR_some', evG_yes, pathG_bool, gG_some, guardR_q, guardL_nil, gv_gd, List.contains_cons, List.contains_nil, Bool.or_false, List.all_cons, beq_self_eq_true, List.all_nil, Bool.and_self, gvB_true, cmp_gtr, eo_pick, ev_pick, List.nil_append, pick3_some, pickV_bool, Bool.cond_true_left, List.getElem?_cons_succ, hasG_yes, kEndB_t, evC_cond, evC_ret, kSeq_r, kRet_r, retOK_eq, retL_cons, retV_t, ungdS_at, ungd_bool, retL_nil, consO_some, lkR_one, lk1_bool, lkT_f, applyL_nil, retOK_f, rtO_some, resV_one, leV1_bool, and_true, knowL_nil, askL_nil, evC_skip, evC_block, evC_loop, I28S, S28, Zn.cs, SL_ge, lkL_cons, ungd_ptr, lkS_ptr, lkS_int, lkL_nil, lkM_cons, lkB_cells, lkC_cons, lkC0_lst, lkC0_int, lkC_nil, lkM_nil, SL_ge0, leL_cons, leV1_ptr, leV1_int, leL_nil, true_and, leM_cons, leB_cells, leAs_cons, leA_lst, leA_int, leAs_nil, and_self, leM_nil, I28R, SL_st, lookL_cons, lookL_nil, lookM_cons, lookM_nil, evC_draw, preK_some, needD_faddr, preB_f, needD_load, needD_mov, needD_arith, needD_iaddrS, needD_cmp, preK_nil, evD_cons, evDk_some, newOK_none, ev_arith, bind2_some', arith_sub, ev_iaddrS, iaddrS_lst, iasB_true, gv_ep, load_ep, getE_u8, Int.toNat_natCast, cmp_geq, evD_nil, kBlk_r, kLoop_r, kBlk_n, eo_arith, arith_add, kLoop_n, I28M, ar_t, condK_bool, knowD_cons, knowD_nil, knowL_cons, pairD_cons, pairOK_eq, newMen_none, Nat.reduceBEq, Bool.or_true, pairB_t, pairD_nil, pairB_f, chkR_eq, pslots_int, optN_some, disjN_nil, newI_none, pslots_ep, pslots_lst, pslots_ptr, askL_cons, List.cons_append, evC_exit, kSeq_e, kLoop_e, kBlk_e, kBlkB_t, cmp_leq, Bool.cond_false_right, true_imp_iff]
  intro hl
  refine ⟨fun h => AV.bool_inj' ?_, fun h => ⟨⟨1, by omega, by omega, by intro j hj; omega⟩, rfl, ?_⟩⟩
  · cases hv : vz z with
    | false => rfl
    | true =>
      exfalso
      have hz := (vz_iff z).mp hv
      simp only [VZ] at hz
      simp at h
      omega
  · have h' : (1 ≤ (z.sens.length : Int) ∧ (z.sens.length : Int) ≤ 8) ∧ (-1000000000000 ≤ z.tgt ∧ z.tgt ≤ 1000000000000) := by
      simp at h; omega
    rintro ⟨i, h0, hi, hs⟩
    dsimp only
    refine fun _ => ⟨fun h1 => ?_, fun h1 => AV.bool_inj' ?_⟩
    · have h1 := of_decide_eq_true h1
      rw [wr_in ((i : Int) - 1) (by omega) (by omega), show ((i : Int) - 1).toNat = i - 1 by omega]
      refine ⟨⟨by omega, by omega⟩, ⟨by omega, by omega⟩, fun _ _ => ⟨fun h2 => AV.bool_inj' ?_, fun h2 => ?_⟩⟩
      · have h2 := of_decide_eq_true h2
        cases hv : vz z with
        | false => rfl
        | true =>
          exfalso
          have hz := ((vz_iff z).mp hv).2.2.2.2.1
          have := srt_iff.mp hz (i - 1) (by omega)
          rw [show i - 1 + 1 = i by omega] at this
          omega
      · have h2 := of_decide_eq_false h2
        refine ⟨⟨i + 1, by omega, by omega, fun j hj => ?_⟩, AV.int_inj' (by rw [wr_in _ (by omega) (by omega)]; rfl), by dsimp only; omega⟩
        by_cases hj2 : j + 1 < i
        · exact hs j hj2
        · have hj3 : j = i - 1 := by omega
          subst hj3
          rw [show i - 1 + 1 = i by omega]
          omega
    · have h1 := of_decide_eq_false h1
      have hsr : srt z.sens = true := srt_iff.mpr fun j hj => hs j (by omega)
      rw [Bool.eq_iff_iff, vz_iff]
      simp only [VZ, Bool.and_eq_true, decide_eq_true_eq, hsr, true_and, and_true]
      omega
end Go.Proofs.Ytofldhooanikcaa
