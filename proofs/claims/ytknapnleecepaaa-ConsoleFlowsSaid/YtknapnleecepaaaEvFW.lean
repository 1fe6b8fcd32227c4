/- A part of the proof: symbolic evaluation of the program's functions, proved sound against the model; no condition. -/
import Derived.Test.YtknapnleecepaaaEvFH
namespace Go.Proofs.Ytknapnleecepaaa
open Go Go.RowKit Go.Ev
set_option linter.unusedSimpArgs false
set_option linter.unusedVariables false
set_option maxRecDepth 20000
set_option maxHeartbeats 4000000 in
theorem t6W {Phi : Nat → Option Ctr} (P20 : Phi 20 = some DNe) (P17 : Phi 17 = some DBy) (P21 : Phi 21 = some DWr) (P29 : Phi 29 = some DBr) (P23 : Phi 23 = some DPo) (P18 : Phi 18 = some DRe) (P16 : Phi 16 = some DGr) {L : List Int} (hL : L.length ≤ 200 ∧ Okb L) {q0 q : K6a L} {K : Exit → St → Prop} (hq : q.i < 400) (p : K6i L) (hp : q.i = p.i) : evC Phi (I6 L) c6W (S6i L p).st (kSeq (evC Phi (I6 L) (.cut 1 c6A)) (kBlk 1 (kSeq (evC Phi (I6 L) c6N) (kLoop (L6a L) q0 q K)))) := by
  obtain ⟨a, b, I, O, la, ws, bs, i, t, h⟩ := p
  replace hp : q.i = i := hp
  simp (config := {maxSteps := 2000000, contextual := true}) only [c6W, S6i, SL_st, evC_seq, evC_region, eo_mov, evG_no, Option.getD_some, ev_mov, av_t, lookL_cons, ↓reduceIte, gv_ptr, bind1_some', un1_mov, goOp_some, put_q, eo_call, P17, DBy, evCl_mk, ev_call, avs_cons, upd_at, av_c, gv_int, avs_nil, consO_some, clE_some, callE_state, lookM_cons, callC_cells, lends_cons, lend1_int, lends_nil, consL_some', List.nil_append, callB_some, List.all_cons, c0_lst, c0_int, List.all_nil, Bool.and_self, decU_u8s, and_self, u8s_len, true_and, Int.reduceLE, and_true, callD_t, callS_some, c2_lst, flat2_lst, flat0_lst, flat0_int, Bool.and_true, backOK_nil, clU_t, put_u, liveB_cells, gv_lst, evOps_nil, kEnd_at, hasG_no, hasG_nil, kEndB_f, kSeq_n, eo_load, ev_load, Nat.reduceEqDiff, load_ptr, updM_at, ldB_cells, valOf_agg, Nat.zero_add, List.length_cons, List.length_nil, Nat.reduceAdd, Nat.reduceLeDiff, decide_true, valB_true, List.drop_zero, List.take_succ_cons, List.take_zero, ldV_some, P21, DWr, Ln.av, gv_agg, callE_pure, lend1_agg, lendC_cons, lendA_lst, lendA_bool, lendA_int, lendC_nil, aggL_some, lend1_lst, callN_some, Ln.eta, callP_some, c2_tup, c1_agg, c0_bool, c1_int, flat2_tup, flat1_agg, flat0_bool, Bool.true_and, flat1_int, clQ_t, gv_tup, eo_extract, ev_extract, un1_extract, List.getElem?_cons_zero, toR_some', List.getElem?_cons_succ, eo_alloc, ev_alloc, Nat.reduceMul, put_n, killB_cells, List.map_cons, kill0_nil, kill0_bool, kill0_int, List.map_nil, eo_store, ar_t, killS_at, kill3_agg, kill0_lst, vwsT_ptr, frzL_nil, goF_eq, Option.getD_none, ev_store, bind2_some', store_ptr, cells_agg, stB_cells, stC_true, setC_cons, List.set_cons_zero, List.set_cons_succ, setC_nil, put_s, kill3_int, eo_cmp, ev_cmp, cmp2_some, cmp_lss, gv_bool, evG_yes, pathG_bool, gG_some, guardR_q, guardL_nil, kill3_lst, eo_len, ev_len, gv_gd, List.contains_cons, List.contains_nil, Bool.or_false, beq_self_eq_true, gvB_true, len_lst, cmp_gtr, eo_pick, ev_pick, pick3_some, pickV_bool, Bool.cond_true_left, hasG_yes, kEndB_t, evC_cond, evC_ret, kSeq_r, kBlk_r, kLoop_r, knowL_nil, askL_nil, evC_skip, evC_draw, preK_some, needD_load, preB_f, needD_mov, needD_slice, needD_appD, preB_t, preK_none, preK_nil, evD_cons, ungdS_at, ungd_ptr, kill3_ptr, killM_at, killO_some, evDk_some, newOK_none, kill3_vw, ungd_vw, gv_vw, ungd_lst, ungd_int, ev_slice, boundA_none, boundA_some, optS_some, sliceO_some, slice_lst, loOf_none, hiOf_int, slL_some, Int.toNat_natCast, Int.reduceToNat, u8s_take, ev_appD, appDR_vw, ysOf_lst, Nat.reduceBEq, killB_buf, appDV_buf, appDK_some, Nat.mul_one, u8s_join, List.cons_append, newOK_some, deadL_dead, deadL_nil, liveB_buf, put_nd, evD_nil, P20, DNe, c2_int, flat2_int, cmp_eql, P29, DBr, c2_agg, flat2_agg, eo_arith, ev_arith, arith_add, evC_cut, I6_1, L6bS, S6b, SL_ge, lkL_cons, lkS_ptr, lkS_vw_vw, renK_f, renK_t, lkS_int, lkS_lst, kill3_bool, ungd_bool, lkS_bool, lkL_nil, lkM_cons, lkB_cells, lkC_cons, lkC0_lst, lkC0_int, lkC_nil, lkC0_bool, killO_none, lkB_buf, lkM_nil, applyL_ren, renQ_buf, Bool.not_false, renP_t, applyL_nil, SL_ge0, leL_cons, renSl_at, ren3_ptr, leV1_ptr, ren3_vw, leV1_vw, ren3_int, leV1_int, ren3_lst, leV1_lst, ren3_bool, leV1_bool, leL_nil, leM_cons, renM_at, renO_cells, ren0_lst, ren0_int, leB_cells, leAs_cons, leA_lst, leA_int, leAs_nil, ren0_bool, leA_bool, leB_buf, renO_buf, leM_nil, L6bR, askL_cons, condK_bool, knowD_cons, knowD_nil, pairD_cons, pairOK_eq, newMen_none, Bool.or_true, pairB_t, pairD_nil, newMen_some, noMen_eq, noB_none, pairB_f, chkR_eq, pslots_vw, optN_some, disjN_nil, pslots_agg, newI_none, newI_some, disjN_cons, pslots_lst, pslots_int]
  try simp only [iteP, iteF]
  obtain ⟨hs, hf, m1, m2, m3⟩ := h
  have hl : L.length ≤ 100000 := by have := hL.1; omega
  have t0 := hs.t0
  have t1 := hs.t1
  have hL1 := hL.1
  have hv := byV_len hL.2 (a := t) (n := 40) (by omega)
  have ho := byV_ok hL.2 t 40
  obtain ⟨b1, b2, b3⟩ := byA_rg (L := L) (t := t) (k := 40) ⟨t0, t1⟩
  have hwn := wrN_le a (byV L t 40)
  have hw := hs.wr ho (by omega)
  have hc := cnA_rg (L := L) (t := byA L t 40) ⟨by omega, b2⟩ 4
  have hln : (I ++ List.take (wrN a (byV L t 40)) (byV L t 40)).length = I.length + wrN a (byV L t 40) := by
    rw [List.length_append, List.length_take]; omega
  have hl2 := hln
  rw [List.length_append] at hl2
  have hM : M6 L (I ++ List.take (wrN a (byV L t 40)) (byV L t 40)) i (cnA L (byA L t 40) 4) false (QA (wrL a (byV L t 40)) b) :=
    ⟨fun _ => ⟨by omega, fun h3 => by have := b3 (by omega); rw [hln]; omega⟩, fun e => (by cases e)⟩
  have hw2 := hw.tt (t' := cnA L (byA L t 40) 4) (by omega) hc.2
  rw [Nat.sub_zero]
  refine ⟨⟨hl, t0, hL.2⟩, ⟨hs.ha.bd, by omega⟩, fun hc => ?_, fun _ => ⟨⟨by omega, by omega⟩, by omega, by omega, ⟨hl, by omega, hL.2⟩, fun _ => ⟨hw.ha.bd, ⟨_, b, _, O, la, ws + 1, bs, i, _, false, ⟨hw2.br (by omega), hf, hM.map fun e => (by cases e)⟩⟩, ⟨⟨AV.int_inj' (wr_succ ws (by omega)), rfl, rfl, rfl, rfl⟩, rfl, ⟨rfl, rfl, rfl, rfl, rfl, rfl, rfl, rfl, rfl, rfl⟩, ⟨rfl, rfl, rfl, rfl, rfl, rfl, rfl, rfl, rfl, rfl⟩, rfl, rfl⟩, fun k hk => t6A P20 P17 P21 P29 P23 P18 P16 hL hq k (hp.trans hk)⟩, fun _ => ⟨⟨_, b, _, O, la, ws, bs, i, _, false, ⟨hw2, hf, hM⟩⟩, ⟨⟨rfl, rfl, rfl, rfl, rfl⟩, rfl, ⟨rfl, rfl, rfl, rfl, rfl, rfl, rfl, rfl, rfl, rfl⟩, ⟨rfl, rfl, rfl, rfl, rfl, rfl, rfl, rfl, rfl, rfl⟩, rfl, rfl⟩, fun k hk => t6A P20 P17 P21 P29 P23 P18 P16 hL hq k (hp.trans hk)⟩⟩⟩
  have e1 : ¬ ((wrN a (byV L t 40) : Int) < 0) := by omega
  have e2 : ¬ (((byV L t 40).length : Int) < (wrN a (byV L t 40) : Int)) := by omega
  rw [decide_eq_false e1, decide_eq_false e2] at hc
  exact absurd hc (by decide)
end Go.Proofs.Ytknapnleecepaaa
