/- A part of the proof: symbolic evaluation of the program's functions, proved sound against the model; no condition. -/
import Derived.Test.YteakklbbdfgbdaaEvRJ
import Derived.Test.YteakklbbdfgbdaaEvRV
namespace Go.Proofs.Yteakklbbdfgbdaa
open Go Go.RowKit Go.Ev
set_option linter.unusedSimpArgs false
set_option linter.unusedVariables false
set_option maxRecDepth 20000
set_option maxHeartbeats 4000000 in
theorem walk5 {Phi : Nat → Option Ctr} (P9 : Phi 9 = some CAw) (P10 : Phi 10 = some DCo) (P11 : Phi 11 = some DNw) (P16 : Phi 16 = some CVl) (P13 : Phi 13 = some DNe) (P14 : Phi 14 = some CDi) (L : List Int) (hL : Okb L) : evC Phi (noI) rc5 ⟨initS [.lst [.int .u8 0] (u8s L)], initM false []⟩ (kRet rv5 (.bool true) false []) := by
  simp (config := {maxSteps := 2000000, contextual := true}) only [rc5, initM_f, rv5, evC_seq, evC_region, eo_mov, evG_no, Option.getD_some, ev_mov, av_c, gv_bool, bind1_some', un1_mov, goOp_some, put_q, evOps_nil, kEnd_at, hasG_no, hasG_nil, kEndB_f, kSeq_n, eo_call, P9, CAw, evCl_mk, ev_call, avs_nil, clE_some, callE_pure, lends_nil, callN_some, callP_some, List.nil_append, c2_bool, flat2_bool, backOK_nil, Bool.and_self, clQ_t, eo_not, ev_not, av_t, upd_at, ↓reduceIte, un1_not, Bool.not_true, evC_cond, evC_ret, kSeq_r, kRet_r, retOK_eq, retL_cons, retV_t, retL_nil, consO_some, lkR_one, lk1_bool, lkT_f, applyL_nil, retOK_f, rtO_some, resV_one, leV1_bool, and_true, knowL_nil, askL_nil, evC_skip, Nat.reduceEqDiff, initS_at, List.getD_cons_zero, gv_lst, P10, DCo, evCl_ext, avs_cons, gv_int, evXV_some, evX_f, lends_cons, lend1_lst, lend1_int, consL_some', evXA_some, decU_u8s, and_self, Int.reduceLE, Int.reduceToNat, evXN_some, evXP_eq, wfX2_fp, List.all_cons, c0_lst, c0_int, List.all_nil, frs2_fp, idsOK_eq, List.map_cons, List.map_nil, nodupN_cons, List.contains_nil, Bool.not_false, nodupN_nil, Nat.reduceLT, decide_true, flatX2_fp, flat0_lst, flat0_int, Bool.and_true, flatL_cells, flatL_nil, evOpsk_at, backX_nil, putX_eq, unfr2_fp, Nat.reduceMul, Nat.reduceAdd, Nat.add_zero, addF_cons, addF_nil, putY_eq, gv_ptr, P11, DNw, Nt.av, evX_t, updM_at, evXC_cells, evXB_some, u8s_len, true_and, evXM_some, evXS_eq, wfX2_agg, wfX0_int, wfX0_lst, frs2_agg, frsL_cons, frs0_int, frs0_lst, frsL_nil, flatX2_agg, flatX0_int, flatX0_lst, Bool.true_and, eo_alloc, ev_alloc, eo_store, setB_eq, unfr2_agg, unfr0_int, unfr0_lst, put_n, killB_cells, kill0_int, kill0_nil, ar_t, killS_at, kill3_agg, kill0_lst, vwsT_ptr, frzL_nil, goF_eq, Option.getD_none, ev_store, gv_agg, bind2_some', store_ptr, cells_agg, List.length_cons, List.length_nil, Nat.zero_add, stB_cells, Nat.reduceLeDiff, stC_true, setC_cons, List.set_cons_zero, List.set_cons_succ, setC_nil, put_s, liveB_cells, eo_load, ev_load, load_ptr, ldB_cells, valOf_agg, valB_true, List.drop_zero, List.take_succ_cons, List.take_zero, ldV_some, P16, CVl, lend1_agg, lendC_cons, lendA_int, lendA_lst, lendC_nil, aggL_some, decBr_brs, decEp_eps, Nt.eta, c2_int, flat2_int, eo_cmp, ev_cmp, cmp2_some, cmp_neq, toR_some', evC_draw, preK_some, needD_mov, preB_f, needD_faddr, needD_load, needD_call, preB_t, preK_nil, evD_cons, kill3_ptr, evDk_some, newOK_none, ev_faddr, faddr_ptr, killM_at, killO_some, valOf_one, List.getElem?_cons_zero, P13, DNe, callE_state, callC_cells, callB_some, callD_t, callS_some, clU_t, put_u, evD_nil, P14, CDi, c2_tup, c1_int, flat2_tup, flat1_int, gv_tup, eo_extract, ev_extract, un1_extract, List.getElem?_cons_succ, evG_yes, pathG_bool, gG_some, guardR_q, guardL_nil, gv_gd, List.contains_cons, Bool.or_false, beq_self_eq_true, gvB_true, eo_pick, ev_pick, pick3_some, pickV_bool, Bool.cond_true_left, cmp_eql, pathG_gd, List.cons_append, Bool.true_or, Bool.or_true, Bool.cond_false_right, cmp_neqB, hasG_yes, kEndB_t, ungdS_at, ungd_int, eo_arith, ev_arith, arith_add, cmp_leq, cmp_gtr, ungd_bool, condK_bool, implies_true, askL_cons, knowD_cons, knowD_nil, pairD_cons, pairOK_eq, newMen_none, Nat.reduceBEq, pairB_t, pairD_nil, pairB_f, chkR_eq, pslots_int, optN_some, disjN_nil, pslots_ptr, newI_none, disjN_cons, true_imp_iff, Bool.false_eq_true, false_imp_iff]
  intro _
  have hl : (L.take 120).length ≤ 100000 := by rw [List.length_take]; omega
  have hO := hL.take 120
  generalize L.take 120 = M at *
  refine ⟨⟨hl, hO⟩, ?_⟩
  rintro ⟨m, a⟩ ⟨W, ha⟩ hv
  dsimp only at *
  have hv : vl m = 0 := by simpa using hv
  have O := vl_ok hv
  have hN := O.N
  have a1 := cnA_nn ha (L := M) m.N
  have a2 := cnA_nn a1 (L := M) m.N
  have X := cn_bd hO (a := a) (n := m.N) (by omega)
  have Y := cn_bd hO (a := cnA M a m.N) (n := m.N) (by omega)
  have Z := cn_bd hO (a := cnA M (cnA M a m.N) m.N) (n := m.N) (by omega)
  refine ⟨⟨hl, by omega, hO⟩, ⟨hl, ⟨a1, by omega⟩, hO⟩, ⟨hl, ⟨a2, by omega⟩, hO⟩, ?_⟩
  generalize cnV M (cnA M (cnA M a m.N) m.N) m.N = z at *
  generalize cnV M (cnA M a m.N) m.N = y at *
  generalize cnV M a m.N = x at *
  obtain ⟨d, h1, e1, v1⟩ := ds_eq hv X Y
  obtain ⟨d', h1', e1', v1'⟩ := ds_eq hv Y X
  obtain ⟨d2, h2, e2, v2⟩ := ds_eq hv X Z
  obtain ⟨d3, h3, e3, v3⟩ := ds_eq hv Z Y
  obtain rfl := h1'.symm.uniq h1
  have hz := h1.zero
  rw [e1, e1', v1, v1', e2, e3, v2, v3]
  have hx : (decide (far d' = 0) && decide ((if far d' = 0 then d' else 0) = 0)) = decide (x = y) := by
    by_cases c : far d' = 0
    · have := far_0.1 c
      rw [if_pos c, decide_eq_true c, Bool.true_and]
      exact decide_eq_decide.2 hz
    · have : ¬ x = y := fun e => c (far_0.2 (by have := hz.2 e; omega))
      rw [decide_eq_false c, decide_eq_false this]; rfl
  rw [hx]
  refine ⟨fun h => by simp at h, fun _ h => ?_⟩
  have c2 : far d2 = 0 := by
    cases hh : decide (far d2 = 0) with
    | true => exact of_decide_eq_true hh
    | false => rw [hh] at h; cases h
  have c3 : far d3 = 0 := by
    cases hh : decide (far d3 = 0) with
    | true => exact of_decide_eq_true hh
    | false => rw [hh, decide_eq_true c2] at h; cases h
  have f2 := far_0.1 c2
  have f3 := far_0.1 c3
  have t := h2.tri h3 h1 f2.1 f3.1
  rw [if_pos c2, if_pos c3, wr_in _ (by omega) (by omega)]
  refine AV.bool_inj' ?_
  by_cases c : far d' = 0
  · rw [if_pos c, decide_eq_true c, decide_eq_true t.2]; rfl
  · have g7 : 7 < d' := by
      by_cases g : 7 < d'
      · exact g
      · exact absurd (far_0.2 (by omega)) c
    rw [decide_eq_false c, decide_eq_true (far_40 g7), decide_eq_true (show 7 < d2 + d3 by omega)]; rfl
end Go.Proofs.Yteakklbbdfgbdaa
