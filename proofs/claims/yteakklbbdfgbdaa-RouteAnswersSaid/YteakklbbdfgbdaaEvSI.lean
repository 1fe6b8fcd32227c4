/- A part of the proof: symbolic evaluation of the program's functions, proved sound against the model; no condition. -/
import Derived.Test.YteakklbbdfgbdaaEvSH
namespace Go.Proofs.Yteakklbbdfgbdaa
open Go Go.RowKit Go.Ev
set_option linter.unusedSimpArgs false
set_option linter.unusedVariables false
set_option maxRecDepth 20000
set_option maxHeartbeats 4000000 in
theorem walk12 {Phi : Nat → Option Ctr} (P13 : Phi 13 = some DNe) (L : List Int) (a : Int) (m : Nt) (hl : L.length ≤ 100000) (ha : 0 ≤ a) (hL : Okb L) (hb : m.bs.length ≤ 1000) (he : m.es.length ≤ 1000) : evC Phi (noI) rc12 ⟨initS (.ptr 0 0 :: [m.av]), initM true [.lst [.int .u8 0] (u8s L), .int .i64 a]⟩ (kRet rv12 ((odM L m a).1.av) true [.lst [.int .u8 0] (u8s L), .int .i64 (odM L m a).2]) := by
  simp (config := {maxSteps := 2000000, contextual := true}) only [rc12, Nt.av, initM_t, rv12, evC_seq, evC_region, eo_box, evG_no, Option.getD_some, ev_box, av_t, initS_at, List.getD_cons_succ, List.getD_cons_zero, gv_agg, bind1_some', boxR_eq, cells_agg, List.length_cons, List.length_nil, Nat.zero_add, Nat.reduceAdd, ↓reduceIte, bxO_some, Nat.reduceMul, goOp_some, put_n, killB_cells, List.map_cons, kill0_int, kill0_lst, List.map_nil, eo_alloc, ev_alloc, kill0_nil, evOps_nil, kEnd_at, hasG_no, hasG_nil, kEndB_f, kSeq_n, evC_draw, preK_some, needD_faddr, preB_f, needD_load, needD_appD, preB_t, preK_none, preK_nil, evD_cons, ev_faddr, killS_at, upd_at, Nat.reduceEqDiff, kill3_ptr, gv_ptr, faddr_ptr, evDk_some, newOK_none, put_q, ev_load, load_ptr, updM_at, killM_at, killO_some, ldB_cells, valOf_one, List.getElem?_cons_succ, List.getElem?_cons_zero, ldV_some, ev_appD, av_c, gv_nil, gv_lst, bind2_some', appDR_nil, appR_nil, ysOf_lst, appK_some, brs_len, List.nil_append, newOK_some, deadL_nil, killB_buf, liveB_buf, and_self, eps_len, Option.getD_none, ev_store, kill3_vw, gv_vw, store_ptr, cells_vw, stB_cells, Nat.reduceLeDiff, decide_true, stC_true, setC_cons, List.set_cons_succ, List.set_cons_zero, setC_nil, put_s, liveB_cells, evD_nil, eo_mov, ev_mov, un1_mov, eo_call, P13, DNe, evCl_mk, ev_call, avs_cons, gv_int, avs_nil, consO_some, clE_some, callE_state, callC_cells, lends_cons, lend1_int, lends_nil, consL_some', callB_some, List.all_cons, c0_lst, c0_int, List.all_nil, Bool.and_self, decU_u8s, u8s_len, true_and, Int.reduceLE, and_true, callD_t, callS_some, c2_int, flat2_int, flat0_lst, flat0_int, Bool.and_true, Bool.true_and, backOK_nil, clU_t, put_u, eo_cmp, ev_cmp, cmp2_some, cmp_lss, toR_some', gv_bool, eo_faddr, evG_yes, pathG_bool, gG_some, guardR_q, guardL_nil, eo_load, gv_gd, List.contains_cons, List.contains_nil, Bool.or_false, beq_self_eq_true, gvB_true, eo_len, ev_len, len_vw, lenV_buf, cmp_eql, eo_pick, ev_pick, pick3_some, pickV_bool, Bool.cond_false_right, cmp_geq, pathG_gd, List.cons_append, Bool.true_or, Bool.or_true, Bool.cond_true_left, hasG_yes, kEndB_t, evC_cond, evC_block, Int.reduceEq, decide_false, needD_iaddrS, needD_bsliceO, needD_mov, needD_call, ungdS_at, ungd_ptr, kill0_vw, Nat.add_zero, ev_iaddrS, iaddrS_vw, iasV_buf, iasW_t, Int.reduceToNat, gv_bp, faddr_bp, load_bp, ldP_buf, getE_br, ldQ_t, ev_bsliceO, List.replicate_succ, List.replicate_zero, lit1, litc, fillS_cons, fsK_some, cells_int, fsC_some, i64s_len, Nat.reduceLT, i64s_set, fillS_nil, blO2_some, getE_i64, store_bp, stP_buf, stQ_t, brs_set, kBlk_n, valOf_agg, valB_true, List.drop_zero, List.take_succ_cons, List.take_zero, eo_store, ar_t, vwsT_ptr, frzL_nil, goF_eq, evC_ret, kRet_r, retOK_eq, retL_cons, retV_c, rvP_ptr, rvB_cells, retL_nil, lkR_one, lk1_agg, lkAs_cons, lk0_int, lk0_vw_lst, lkAs_nil, lkT_t, lkB_cells, lkC_cons, lkC0_lst, lkC0_int, lkC_nil, applyL_frz, frzQ_buf, frzP_t, frzM_at, frzO_some, frzB_buf, applyL_nil, retOK_t, frzSl_at, frz3_ptr, frzB_cells, frz0_int, frz0_vw, frz0_lst, rtO_some, resV_one, leV1_agg, leAs_cons, leA_int, leA_lst, leAs_nil, rtM_cells, knowL_nil, askL_nil, knowD_cons, knowD_nil, knowL_cons, true_imp_iff, pairD_cons, pairOK_eq, newMen_none, Nat.reduceBEq, pairB_t, pairD_nil, askL_cons, pairB_f, chkR_eq, pslots_int, optN_some, disjN_nil, pslots_vw, newI_none, pslots_ptr, pslots_bp, newI_some, disjN_cons, Bool.not_false, newMen_some, noMen_eq, kill3_int, noB_none, kill3_bp, lit1u, litcu, u8s_set, getE_u8, needD_bslice, ev_bslice, blS_some, appDR_vw, appDV_buf, appDK_some, brs_snoc, Br.eta, deadL_dead, put_nd, kill3_lst, kill3_agg, pslots_lst, pslots_agg, getE_ep, eps_set, eps_snoc, Ep.eta, eo_bsliceO, vwsG_cons, ar_c, vws1_int, vwsG_nil, eo_iaddrS, evC_skip, condK_bool, Bool.true_eq_false, false_imp_iff, Bool.false_eq_true, ungd_int, ungd_bool, noB_some]
  have k7 := cn_bd hL (a := a) (n := 7) (by omega)
  have a1 := cnA_nn ha (L := L) 7
  have b2 := cn_bd hL (a := cnA L a 7) (n := 2) (by omega)
  have b3 := cn_bd hL (a := cnA L a 7) (n := 3) (by omega)
  have b4 := cn_bd hL (a := cnA L a 7) (n := 4) (by omega)
  have b6 := cn_bd hL (a := cnA L a 7) (n := 6) (by omega)
  refine ⟨by omega, by omega, by omega, by omega, ⟨hl, ha, hL⟩, fun h => ?_, fun h => ?_⟩
  · have hk : odK L m a = 6 := by
      unfold odK
      simp only [Bool.or_eq_true, Bool.and_eq_true, decide_eq_true_eq] at h
      exact if_pos (by omega)
    have e : odM L m a = (⟨[0, -1, 17, 9223372036854775807].getD (cnV L (cnA L a 7) 4).toNat 0, m.bs, m.es⟩, cnA L (cnA L a 7) 4) := by unfold odM; rw [hk]; rfl
    rw [e]
    exact ⟨⟨hl, a1, hL⟩, ⟨by omega, by omega⟩, by omega, ⟨rfl, rfl, rfl⟩, rfl⟩
  have h' : ¬ ((cnV L a 7 < 3 ∧ m.bs.length = 0) ∨ (3 ≤ cnV L a 7 ∧ cnV L a 7 < 6 ∧ m.es.length = 0)) := by
    simp only [Bool.or_eq_false_iff, Bool.and_eq_false_iff, decide_eq_false_iff_not] at h
    omega
  have hk : odK L m a = cnV L a 7 := if_neg h'
  refine ⟨fun h0 => ?_, fun h0 => ⟨fun h1 => ?_, fun h1 => ⟨fun h2 => ?_, fun h2 => ⟨fun h3 => ?_, fun h3 => ⟨fun h4 => ?_, fun h4 => ⟨fun h5 => ?_, fun h5 => ⟨fun h6 => ?_, fun h6 => ?_⟩⟩⟩⟩⟩⟩⟩
  · have h0 := of_decide_eq_true h0
    rw [h0] at hk
    have e : odM L m a = (⟨m.N, m.bs.set 0 ⟨(m.bs.getD 0 b0).ad, [-1, m.N, (m.bs.getD 0 b0).r].getD (cnV L (cnA L a 7) 3).toNat 0, (m.bs.getD 0 b0).r⟩, m.es⟩, cnA L (cnA L a 7) 3) := by unfold odM; rw [hk]; rfl
    rw [e]
    exact ⟨by omega, by omega, ⟨hl, a1, hL⟩, ⟨by omega, by omega⟩, by omega, by omega, by omega, fun _ => ⟨⟨rfl, rfl, rfl⟩, rfl⟩⟩
  · have h1 := of_decide_eq_true h1
    rw [h1] at hk
    have e : odM L m a = (⟨m.N, m.bs.set 0 ⟨[0, 7, 8, 119, 120, 255].getD (cnV L (cnA L a 7) 6).toNat 0, (m.bs.getD 0 b0).l, (m.bs.getD 0 b0).r⟩, m.es⟩, cnA L (cnA L a 7) 6) := by unfold odM; rw [hk]; rfl
    rw [e]
    exact ⟨⟨hl, a1, hL⟩, ⟨by omega, by omega⟩, by omega, by omega, by omega, fun _ => ⟨⟨rfl, rfl, rfl⟩, rfl⟩⟩
  · have h2 := of_decide_eq_true h2
    rw [h2] at hk
    have e : odM L m a = (⟨m.N, m.bs ++ [m.bs.getD 0 b0], m.es⟩, cnA L a 7) := by unfold odM; rw [hk]; rfl
    rw [e]
    exact ⟨by omega, by omega, by omega, by omega, fun _ => ⟨⟨rfl, rfl, rfl⟩, rfl⟩⟩
  · have h3 := of_decide_eq_true h3
    rw [h3] at hk
    have e : odM L m a = (⟨m.N, m.bs, m.es.set 0 ⟨(m.es.getD 0 e0).id, (m.es.getD 0 e0).ad, [-1, m.N].getD (cnV L (cnA L a 7) 2).toNat 0⟩⟩, cnA L (cnA L a 7) 2) := by unfold odM; rw [hk]; rfl
    rw [e]
    exact ⟨⟨hl, a1, hL⟩, ⟨by omega, by omega⟩, by omega, by omega, by omega, fun _ => ⟨⟨rfl, rfl, rfl⟩, rfl⟩⟩
  · have h4 := of_decide_eq_true h4
    rw [h4] at hk
    have e : odM L m a = (⟨m.N, m.bs, m.es.set 0 ⟨(m.es.getD 0 e0).id, [0, 16, 17, 120].getD (cnV L (cnA L a 7) 4).toNat 0, (m.es.getD 0 e0).bu⟩⟩, cnA L (cnA L a 7) 4) := by unfold odM; rw [hk]; rfl
    rw [e]
    exact ⟨⟨hl, a1, hL⟩, ⟨by omega, by omega⟩, by omega, by omega, by omega, fun _ => ⟨⟨rfl, rfl, rfl⟩, rfl⟩⟩
  · have h5 := of_decide_eq_true h5
    rw [h5] at hk
    have e : odM L m a = (⟨m.N, m.bs, m.es ++ [m.es.getD 0 e0]⟩, cnA L a 7) := by unfold odM; rw [hk]; rfl
    rw [e]
    exact ⟨by omega, by omega, by omega, by omega, fun _ => ⟨⟨rfl, rfl, rfl⟩, rfl⟩⟩
  · have h6 := of_decide_eq_true h6
    rw [h6] at hk
    have e : odM L m a = (⟨[0, -1, 17, 9223372036854775807].getD (cnV L (cnA L a 7) 4).toNat 0, m.bs, m.es⟩, cnA L (cnA L a 7) 4) := by unfold odM; rw [hk]; rfl
    rw [e]
    exact ⟨⟨hl, a1, hL⟩, ⟨by omega, by omega⟩, by omega, ⟨rfl, rfl, rfl⟩, rfl⟩
  · have h0 := of_decide_eq_false h0
    have h1 := of_decide_eq_false h1
    have h2 := of_decide_eq_false h2
    have h3 := of_decide_eq_false h3
    have h4 := of_decide_eq_false h4
    have h5 := of_decide_eq_false h5
    have h6 := of_decide_eq_false h6
    omega
end Go.Proofs.Yteakklbbdfgbdaa
