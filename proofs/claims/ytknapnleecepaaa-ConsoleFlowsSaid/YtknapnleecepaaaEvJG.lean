/- A part of the proof: symbolic evaluation of the program's functions, proved sound against the model; no condition. -/
import Derived.Test.YtknapnleecepaaaEvJF
namespace Go.Proofs.Ytknapnleecepaaa
open Go Go.RowKit Go.Ev
set_option linter.unusedSimpArgs false
set_option linter.unusedVariables false
set_option maxRecDepth 20000
set_option maxHeartbeats 4000000 in
theorem walk18 {Phi : Nat → Option Ctr} (P25 : Phi 25 = some DVa) (P11 : Phi 11 = some DDe) (P38 : Phi 38 = some DCn) (P39 : Phi 39 = some DNx) (P36 : Phi 36 = some DCf) (l : Ln) (b : List Int) (hb : Bd l) (hl : b.length ≤ 100000) (ho : Okb b) : evC Phi (noI) rc18 ⟨initS [l.av, .lst [.int .u8 0] (u8s b)], initM false []⟩ (kRet rv18 (.tup [(reR l b).av, .lst [.int .u8 0] (u8s (reD l b)), .bool (reB l b), .int .i64 (reE l b)]) false []) := by
  simp (config := {maxSteps := 2000000}) only [rc18, Ln.av, initM_f, rv18, evC_seq, evC_region, eo_box, evG_no, Option.getD_some, ev_box, av_t, initS_at, List.getD_cons_zero, gv_agg, bind1_some', boxR_eq, cells_agg, List.length_cons, List.length_nil, Nat.zero_add, Nat.reduceAdd, ↓reduceIte, bxO_some, Nat.reduceMul, goOp_some, put_n, killB_cells, List.map_cons, kill0_lst, kill0_bool, kill0_int, List.map_nil, eo_alloc, ev_alloc, kill0_nil, eo_mov, ev_mov, av_c, gv_nil, un1_mov, put_q, gv_bool, gv_int, evOps_nil, kEnd_at, hasG_no, hasG_nil, kEndB_f, kSeq_n, eo_load, ev_load, upd_at, Nat.reduceEqDiff, killS_at, kill3_ptr, gv_ptr, load_ptr, updM_at, killM_at, killO_some, ldB_cells, valOf_agg, Nat.reduceLeDiff, decide_true, valB_true, List.drop_zero, List.take_succ_cons, List.take_zero, ldV_some, eo_call, P25, DVa, evCl_mk, ev_call, avs_cons, avs_nil, consO_some, clE_some, callE_pure, lends_cons, lend1_agg, lendC_cons, lendA_lst, lendA_bool, lendA_int, lendC_nil, consL_some', List.nil_append, aggL_some, lends_nil, callN_some, decU_u8s, and_self, u8s_len, true_and, Ln.eta, callP_some, c2_bool, flat2_bool, backOK_nil, Bool.and_self, clQ_t, eo_not, ev_not, un1_not, evC_cond, eo_build, ev_build, fillA_nil, blO_some, eo_store, ar_t, vwsT_ptr, frzL_nil, goF_eq, Option.getD_none, ev_store, bind2_some', store_ptr, stB_cells, stC_true, setC_cons, List.set_cons_zero, List.set_cons_succ, setC_nil, put_s, liveB_cells, evC_ret, kSeq_r, kRet_r, retOK_eq, retL_cons, retV_c, rvP_ptr, rvB_cells, retV_t, retL_nil, lkR_two, lkVs_cons, lk1_agg, lkAs_cons, lk0_nil, lk0_bool, lk0_int, lkAs_nil, lk1_nil, lk1_bool, lk1_int, lkVs_nil, lkT_f, applyL_nil, retOK_f, rtO_some, resV_two, leVs_cons, leV1_agg, leAs_cons, leA_nil, leA_bool, leA_int, leAs_nil, and_true, leV1_nil, leV1_bool, leV1_int, leVs_nil, knowL_nil, askL_nil, evC_skip, List.getD_cons_succ, kill3_lst, gv_lst, P11, DDe, Ck.av, lend1_lst, c2_tup, List.all_cons, c1_agg, c0_int, c0_bool, c0_lst, List.all_nil, c1_int, flat2_tup, flat1_agg, flat0_int, flat0_bool, flat0_lst, Bool.and_true, Bool.true_and, flat1_int, gv_tup, eo_extract, ev_extract, un1_extract, List.getElem?_cons_zero, toR_some', List.getElem?_cons_succ, kill3_agg, kill3_int, eo_cmp, ev_cmp, cmp2_some, cmp_neq, P38, DCn, evCl_ext, evXV_some, evX_f, evXA_some, evXN_some, evXP_eq, wfX2_agg, wfX0_fr, Nat.reduceLT, wfX0_bool, wfX0_int, frs2_agg, frsL_cons, frs0_fr, frs0_bool, frs0_int, frsL_nil, List.cons_append, idsOK_eq, nodupN_cons, List.contains_cons, Nat.reduceBEq, List.contains_nil, Bool.or_false, Bool.not_false, nodupN_nil, flatX2_agg, flatX0_fr, flatC_int, flatX0_bool, flatX0_int, flatL_buf, flatL_nil, evOpsk_at, backX_nil, putX_eq, unfr2_agg, unfr0_fr, Nat.add_zero, unfr0_bool, unfr0_int, addF_cons, addF_nil, putY_eq, kill0_vw, eo_faddr, ev_faddr, faddr_ptr, valOf_one, evG_yes, pathG_bool, gG_some, guardR_q, guardL_nil, gv_gd, beq_self_eq_true, gvB_true, cmp_eql, eo_pick, ev_pick, pick3_some, pickV_bool, Bool.cond_false_right, hasG_yes, kEndB_t, ungdS_at, ungd_ptr, eo_len, ev_len, gv_vw, len_vw, killB_buf, lenV_buf, eo_minmax, ev_minmax, mmO_some, mm_min, mm_nil, eo_slice, ev_slice, boundA_some, optS_some, boundA_none, sliceO_some, slice_vw, slB_buf, loOf_int, hiOf_none, slV_some, Int.toNat_natCast, gv_sv, evC_draw, preK_some, needD_mov, preB_f, needD_len, needD_faddr, needD_load, needD_arith, needD_mkslice, preB_t, needD_appD, preK_none, preK_nil, evD_cons, kill3_sv, evDk_some, newOK_none, len_sv, ev_arith, arith_add, ev_mkslice, mk_int, Int.reduceLE, Int.reduceToNat, List.replicate_zero, newOK_some, deadL_nil, liveB_buf, ev_appD, appDR_vw, ysOf_sv, ysP_buf, ysQ_t, u8s_drop, u8s_take, appDV_buf, appDK_some, Nat.mul_one, deadL_dead, put_nd, ysOf_vw, ysV_buf, u8s_join, cells_vw, evD_nil, ar_c, cells_nil, cells_bool, evC_block, kBlk_n, kill3_nil, ungd_nil, kill3_bool, ungd_bool, lk0_vw_lst, applyL_frz, frzQ_buf, frzP_t, frzSl_at, frz3_ptr, frzM_at, frzO_some, frzB_cells, frz0_vw, frz0_bool, frz0_nil, frz0_int, frz3_nil, frz3_bool, frz3_int, leA_lst, cells_int, needD_call, needD_cmp, P39, DNx, lend1_int, c2_int, flat2_int, len_lst, needD_slice, slice_lst, loOf_none, hiOf_int, slL_some, P36, DCf, c2_lst, flat2_lst, eo_arith, arith_sub, lk1_lst, frz3_lst, leV1_lst, knowD_cons, knowD_nil, pairD_cons, pairOK_eq, newMen_none, Bool.or_true, pairB_t, pairD_nil, pairB_f, chkR_eq, pslots_junk, optN_some, disjN_nil, pslots_int, optN_none, newI_none, disjN_cons, pslots_ptr, pslots_lst, pslots_bool, askL_cons, knowL_cons, condK_bool, newMen_some, noMen_eq, kill3_vw, noB_none, killB_dead, noB_some, pslots_vw, newI_some, pslots_sv, frzB_buf, frz0_lst, true_imp_iff]
  refine ⟨hb, fun h => ?_, fun h => ⟨⟨hl, ho⟩, fun he => ?_, fun he => ⟨hb, fun _ => ⟨fun hf _ => ?_, fun hf => ?_⟩⟩⟩⟩
  · have hP : ¬ lnP l := by simpa using h
    obtain ⟨e1, e2, e3, e4⟩ := re_no (b := b) hP
    exact ⟨ln_eqs_0 e1, by rw [e2]; rfl, by rw [e3], by rw [e4]⟩
  all_goals have hP : lnP l := by simpa using h
  · have he : deE b ≠ 0 := by simpa using he
    obtain ⟨e1, e2, e3, e4⟩ := re_er hP he
    exact ⟨ln_eqs_0 e1, by rw [e2]; rfl, by rw [e3], by rw [e4]⟩
  all_goals have he : deE b = 0 := by simpa using he
  all_goals obtain ⟨_, ⟨⟨_, _⟩, ⟨_, _⟩, ⟨k1, k2⟩, k3, _⟩, _⟩ := de_ok he
  all_goals obtain ⟨_, _, _, ⟨r1, r2⟩, _⟩ := id hP
  all_goals have hb1 := hb.1
  all_goals have hb2 := hb.2
  · have hF : l.bu = true ∧ (deC b).ak = l.sq := by simpa only [Bool.and_eq_true, decide_eq_true_eq] using hf
    have hm := (if_pos hF : reA l (deC b) = _)
    have hd : (l.s.drop (deC b).ct.toNat).length ≤ l.s.length := by rw [List.length_drop]; omega
    rw [re_d l.s k1]
    refine ⟨⟨by omega, by omega, by omega⟩, ⟨by rw [wr_in _ (by omega) (by omega)]; omega, by rw [wr_in _ (by omega) (by omega)]; omega, by rw [wr_in _ (by omega) (by omega)]; omega⟩, by omega, by omega, by omega, by omega, fun _ _ => ⟨fun h1 => ?_, fun h1 => ?_⟩⟩
    · have h1 := of_decide_eq_true h1
      obtain ⟨e1, e2, e3, e4⟩ := re_1 hP he hm h1
      exact ⟨ln_eqs_s e1, by rw [e2]; rfl, by rw [e3], by rw [e4]⟩
    have h1 := of_decide_eq_false h1
    refine ⟨fun h2 => ?_, fun h2 => ⟨fun h3 _ => ?_, fun h3 => ?_⟩⟩
    · have h2 := of_decide_eq_true h2
      obtain ⟨e1, e2, e3, e4⟩ := re_2 hP he hm h1 h2
      exact ⟨ln_eqs_s e1, by rw [e2]; rfl, by rw [e3], by rw [e4]⟩
    · have h2 := of_decide_eq_false h2
      have h3 := of_decide_eq_true h3
      obtain ⟨e1, e2, e3, e4⟩ := re_3 hP he hm h1 h2 h3
      have hN : min ((deC b).d.length : Int) l.ro = ((reN l (deC b) : Nat) : Int) := by rw [reN]; omega
      have hN2 : reN l (deC b) ≤ (deC b).d.length := by rw [reN]; omega
      have hN3 : (reN l (deC b) : Int) ≤ l.ro := by rw [reN]; omega
      have hT : ((deC b).d.take (reN l (deC b))).length ≤ 64 := by rw [List.length_take]; omega
      rw [hN, Int.toNat_natCast, Nat.sub_zero, wr_in (l.ro - (reN l (deC b) : Int)) (by omega) (by omega)]
      exact ⟨⟨by omega, by omega⟩, by omega, ln_eqs_s e1, by rw [e2], by rw [e3], by rw [e4]⟩
    · have h2 := of_decide_eq_false h2
      have h3 := of_decide_eq_false h3
      obtain ⟨e1, e2, e3, e4⟩ := re_4 hP he hm h1 h2 h3
      exact ⟨ln_eqs_s e1, by rw [e2]; rfl, by rw [e3], by rw [e4]⟩
  · have hF : ¬ (l.bu = true ∧ (deC b).ak = l.sq) := by
      rintro ⟨h1, h2⟩
      rw [h1, decide_eq_true h2] at hf; cases hf
    have hm := (if_neg hF : reA l (deC b) = l)
    refine ⟨fun h1 => ?_, fun h1 => ?_⟩
    · have h1 := of_decide_eq_true h1
      obtain ⟨e1, e2, e3, e4⟩ := re_1 hP he hm h1
      exact ⟨ln_eqs e1, by rw [e2]; rfl, by rw [e3], by rw [e4]⟩
    have h1 := of_decide_eq_false h1
    refine ⟨fun h2 => ?_, fun h2 => ⟨fun h3 _ => ?_, fun h3 => ?_⟩⟩
    · have h2 := of_decide_eq_true h2
      obtain ⟨e1, e2, e3, e4⟩ := re_2 hP he hm h1 h2
      exact ⟨ln_eqs e1, by rw [e2]; rfl, by rw [e3], by rw [e4]⟩
    · have h2 := of_decide_eq_false h2
      have h3 := of_decide_eq_true h3
      obtain ⟨e1, e2, e3, e4⟩ := re_3 hP he hm h1 h2 h3
      have hN : min ((deC b).d.length : Int) l.ro = ((reN l (deC b) : Nat) : Int) := by rw [reN]; omega
      have hN2 : reN l (deC b) ≤ (deC b).d.length := by rw [reN]; omega
      have hN3 : (reN l (deC b) : Int) ≤ l.ro := by rw [reN]; omega
      have hT : ((deC b).d.take (reN l (deC b))).length ≤ 64 := by rw [List.length_take]; omega
      rw [hN, Int.toNat_natCast, Nat.sub_zero, wr_in (l.ro - (reN l (deC b) : Int)) (by omega) (by omega)]
      exact ⟨⟨by omega, by omega⟩, by omega, ln_eqs e1, by rw [e2], by rw [e3], by rw [e4]⟩
    · have h2 := of_decide_eq_false h2
      have h3 := of_decide_eq_false h3
      obtain ⟨e1, e2, e3, e4⟩ := re_4 hP he hm h1 h2 h3
      exact ⟨ln_eqs e1, by rw [e2]; rfl, by rw [e3], by rw [e4]⟩
set_option maxHeartbeats 4000000 in
theorem walk28 {Phi : Nat → Option Ctr} (P26 : Phi 26 = some DVa) (P13 : Phi 13 = some DDe) (P40 : Phi 40 = some DCn) (P41 : Phi 41 = some DNx) (l : Ln) (b : List Int) (hb : Bd l) (hl : b.length ≤ 100000) (ho : Okb b) : evC Phi (noI) rc28 ⟨initS [l.av, .lst [.int .u8 0] (u8s b)], initM false []⟩ (kRet rv28 (.tup [(reR l b).av, .lst [.int .u8 0] (u8s (reD l b)), .bool (reB l b), .int .i64 (reE l b)]) false []) := by
  simp (config := {maxSteps := 2000000}) only [rc28, Ln.av, initM_f, rv28, evC_seq, evC_region, eo_box, evG_no, Option.getD_some, ev_box, av_t, initS_at, List.getD_cons_zero, gv_agg, bind1_some', boxR_eq, cells_agg, List.length_cons, List.length_nil, Nat.zero_add, Nat.reduceAdd, ↓reduceIte, bxO_some, Nat.reduceMul, goOp_some, put_n, killB_cells, List.map_cons, kill0_lst, kill0_bool, kill0_int, List.map_nil, eo_alloc, ev_alloc, kill0_nil, eo_mov, ev_mov, av_c, gv_nil, un1_mov, put_q, gv_bool, gv_int, evOps_nil, kEnd_at, hasG_no, hasG_nil, kEndB_f, kSeq_n, eo_load, ev_load, upd_at, Nat.reduceEqDiff, killS_at, kill3_ptr, gv_ptr, load_ptr, updM_at, killM_at, killO_some, ldB_cells, valOf_agg, Nat.reduceLeDiff, decide_true, valB_true, List.drop_zero, List.take_succ_cons, List.take_zero, ldV_some, eo_call, P26, DVa, evCl_mk, ev_call, avs_cons, avs_nil, consO_some, clE_some, callE_pure, lends_cons, lend1_agg, lendC_cons, lendA_lst, lendA_bool, lendA_int, lendC_nil, consL_some', List.nil_append, aggL_some, lends_nil, callN_some, decU_u8s, and_self, u8s_len, true_and, Ln.eta, callP_some, c2_bool, flat2_bool, backOK_nil, Bool.and_self, clQ_t, eo_not, ev_not, un1_not, evC_cond, eo_build, ev_build, fillA_nil, blO_some, eo_store, ar_t, vwsT_ptr, frzL_nil, goF_eq, Option.getD_none, ev_store, bind2_some', store_ptr, stB_cells, stC_true, setC_cons, List.set_cons_zero, List.set_cons_succ, setC_nil, put_s, liveB_cells, evC_ret, kSeq_r, kRet_r, retOK_eq, retL_cons, retV_c, rvP_ptr, rvB_cells, retV_t, retL_nil, lkR_two, lkVs_cons, lk1_agg, lkAs_cons, lk0_nil, lk0_bool, lk0_int, lkAs_nil, lk1_nil, lk1_bool, lk1_int, lkVs_nil, lkT_f, applyL_nil, retOK_f, rtO_some, resV_two, leVs_cons, leV1_agg, leAs_cons, leA_nil, leA_bool, leA_int, leAs_nil, and_true, leV1_nil, leV1_bool, leV1_int, leVs_nil, knowL_nil, askL_nil, evC_skip, List.getD_cons_succ, kill3_lst, gv_lst, P13, DDe, Ck.av, lend1_lst, c2_tup, List.all_cons, c1_agg, c0_int, c0_bool, c0_lst, List.all_nil, c1_int, flat2_tup, flat1_agg, flat0_int, flat0_bool, flat0_lst, Bool.and_true, Bool.true_and, flat1_int, gv_tup, eo_extract, ev_extract, un1_extract, List.getElem?_cons_zero, toR_some', List.getElem?_cons_succ, kill3_agg, kill3_int, eo_cmp, ev_cmp, cmp2_some, cmp_neq, P40, DCn, evCl_ext, evXV_some, evX_f, evXA_some, evXN_some, evXP_eq, wfX2_agg, wfX0_fr, Nat.reduceLT, wfX0_bool, wfX0_int, frs2_agg, frsL_cons, frs0_fr, frs0_bool, frs0_int, frsL_nil, List.cons_append, idsOK_eq, nodupN_cons, List.contains_cons, Nat.reduceBEq, List.contains_nil, Bool.or_false, Bool.not_false, nodupN_nil, flatX2_agg, flatX0_fr, flatC_int, flatX0_bool, flatX0_int, flatL_buf, flatL_nil, evOpsk_at, backX_nil, putX_eq, unfr2_agg, unfr0_fr, Nat.add_zero, unfr0_bool, unfr0_int, addF_cons, addF_nil, putY_eq, eo_faddr, ev_faddr, faddr_ptr, valOf_one, evG_yes, pathG_bool, gG_some, guardR_q, guardL_nil, gv_gd, beq_self_eq_true, gvB_true, cmp_eql, eo_pick, ev_pick, pick3_some, pickV_bool, Bool.cond_false_right, hasG_yes, kEndB_t, ungdS_at, ungd_ptr, eo_len, ev_len, gv_vw, len_vw, lenV_buf, eo_minmax, ev_minmax, mmO_some, mm_min, mm_nil, evC_draw, preK_some, needD_faddr, preB_f, needD_load, needD_mov, needD_slice, needD_appD, preB_t, preK_none, preK_nil, evD_cons, evDk_some, newOK_none, kill0_vw, ev_slice, boundA_some, optS_some, boundA_none, sliceO_some, slice_vw, killB_buf, slB_buf, loOf_int, hiOf_none, slV_some, Int.toNat_natCast, ev_appD, gv_sv, appDR_nil, appR_nil, ysOf_sv, ysP_buf, ysQ_t, u8s_drop, u8s_take, appK_some, Nat.mul_one, newOK_some, deadL_nil, liveB_buf, appDR_vw, ysOf_vw, ysV_buf, appDV_buf, appDK_some, u8s_join, deadL_dead, put_nd, cells_vw, evD_nil, ar_c, cells_nil, cells_bool, evC_block, kBlk_n, lk0_vw_lst, applyL_frz, frzQ_buf, frzP_t, frzSl_at, frz3_ptr, frzM_at, frzO_some, frzB_cells, frz0_vw, frz0_bool, frz0_nil, frz0_int, frz3_nil, frz3_bool, frz3_int, leA_lst, cells_int, needD_call, needD_cmp, P41, DNx, lend1_int, c2_int, flat2_int, len_lst, needD_arith, ev_arith, arith_sub, slice_lst, loOf_none, hiOf_int, slL_some, Int.reduceLE, Int.reduceToNat, ysOf_lst, kBlk_r, lk1_vw_lst, frzB_buf, frz0_lst, frz3_vw, leV1_lst, knowD_cons, knowD_nil, pairD_cons, pairOK_eq, newMen_none, Bool.or_true, pairB_t, pairD_nil, pairB_f, chkR_eq, pslots_vw, optN_some, disjN_nil, pslots_bool, newI_none, pslots_ptr, pslots_junk, optN_none, disjN_cons, newI_some, newMen_some, noMen_eq, kill3_bool, noB_none, pslots_lst, pslots_int, pslots_agg, askL_cons, knowL_cons, condK_bool, kill3_vw, noB_some, kill3_sv, pslots_sv, ungd_bool, true_imp_iff]
  refine ⟨hb, fun h => ?_, fun h => ⟨⟨hl, ho⟩, fun he => ?_, fun he => ⟨hb, fun _ => ⟨fun hf _ => ?_, fun hf => ?_⟩⟩⟩⟩
  · have hP : ¬ lnP l := by simpa using h
    obtain ⟨e1, e2, e3, e4⟩ := re_no (b := b) hP
    exact ⟨ln_eqs_0 e1, by rw [e2]; rfl, by rw [e3], by rw [e4]⟩
  all_goals have hP : lnP l := by simpa using h
  · have he : deE b ≠ 0 := by simpa using he
    obtain ⟨e1, e2, e3, e4⟩ := re_er hP he
    exact ⟨ln_eqs_0 e1, by rw [e2]; rfl, by rw [e3], by rw [e4]⟩
  all_goals have he : deE b = 0 := by simpa using he
  all_goals obtain ⟨_, ⟨⟨_, _⟩, ⟨_, _⟩, ⟨k1, k2⟩, k3, _⟩, _⟩ := de_ok he
  all_goals obtain ⟨_, _, _, ⟨r1, r2⟩, _⟩ := id hP
  all_goals have hb1 := hb.1
  all_goals have hb2 := hb.2
  · have hF : l.bu = true ∧ (deC b).ak = l.sq := by simpa only [Bool.and_eq_true, decide_eq_true_eq] using hf
    have hm := (if_pos hF : reA l (deC b) = _)
    have hd : (l.s.drop (deC b).ct.toNat).length ≤ l.s.length := by rw [List.length_drop]; omega
    rw [re_d l.s k1]
    refine ⟨⟨by omega, by omega, by omega⟩, by omega, by omega, by omega, by omega, ⟨fun h1 => ?_, fun h1 => ?_⟩⟩
    · have h1 := of_decide_eq_true h1
      obtain ⟨e1, e2, e3, e4⟩ := re_1 hP he hm h1
      exact ⟨ln_eqs_s e1, by rw [e2]; rfl, by rw [e3], by rw [e4]⟩
    have h1 := of_decide_eq_false h1
    refine ⟨fun h2 => ?_, fun h2 => ⟨fun h3 _ => ?_, fun h3 => ?_⟩⟩
    · have h2 := of_decide_eq_true h2
      obtain ⟨e1, e2, e3, e4⟩ := re_2 hP he hm h1 h2
      exact ⟨ln_eqs_s e1, by rw [e2]; rfl, by rw [e3], by rw [e4]⟩
    · have h2 := of_decide_eq_false h2
      have h3 := of_decide_eq_true h3
      obtain ⟨e1, e2, e3, e4⟩ := re_3 hP he hm h1 h2 h3
      have hN : min ((deC b).d.length : Int) l.ro = ((reN l (deC b) : Nat) : Int) := by rw [reN]; omega
      have hN2 : reN l (deC b) ≤ (deC b).d.length := by rw [reN]; omega
      have hN3 : (reN l (deC b) : Int) ≤ l.ro := by rw [reN]; omega
      have hT : ((deC b).d.take (reN l (deC b))).length ≤ 64 := by rw [List.length_take]; omega
      rw [hN, Int.toNat_natCast, Nat.sub_zero, wr_in (l.ro - (reN l (deC b) : Int)) (by omega) (by omega)]
      exact ⟨⟨by omega, by omega⟩, by omega, by omega, ln_eqs_s e1, by rw [e2], by rw [e3], by rw [e4]⟩
    · have h2 := of_decide_eq_false h2
      have h3 := of_decide_eq_false h3
      obtain ⟨e1, e2, e3, e4⟩ := re_4 hP he hm h1 h2 h3
      exact ⟨ln_eqs_s e1, by rw [e2]; rfl, by rw [e3], by rw [e4]⟩
  · have hF : ¬ (l.bu = true ∧ (deC b).ak = l.sq) := by
      rintro ⟨h1, h2⟩
      rw [h1, decide_eq_true h2] at hf; cases hf
    have hm := (if_neg hF : reA l (deC b) = l)
    refine ⟨fun h1 => ?_, fun h1 => ?_⟩
    · have h1 := of_decide_eq_true h1
      obtain ⟨e1, e2, e3, e4⟩ := re_1 hP he hm h1
      exact ⟨ln_eqs e1, by rw [e2]; rfl, by rw [e3], by rw [e4]⟩
    have h1 := of_decide_eq_false h1
    refine ⟨fun h2 => ?_, fun h2 => ⟨fun h3 _ => ?_, fun h3 => ?_⟩⟩
    · have h2 := of_decide_eq_true h2
      obtain ⟨e1, e2, e3, e4⟩ := re_2 hP he hm h1 h2
      exact ⟨ln_eqs e1, by rw [e2]; rfl, by rw [e3], by rw [e4]⟩
    · have h2 := of_decide_eq_false h2
      have h3 := of_decide_eq_true h3
      obtain ⟨e1, e2, e3, e4⟩ := re_3 hP he hm h1 h2 h3
      have hN : min ((deC b).d.length : Int) l.ro = ((reN l (deC b) : Nat) : Int) := by rw [reN]; omega
      have hN2 : reN l (deC b) ≤ (deC b).d.length := by rw [reN]; omega
      have hN3 : (reN l (deC b) : Int) ≤ l.ro := by rw [reN]; omega
      have hT : ((deC b).d.take (reN l (deC b))).length ≤ 64 := by rw [List.length_take]; omega
      rw [hN, Int.toNat_natCast, Nat.sub_zero, wr_in (l.ro - (reN l (deC b) : Int)) (by omega) (by omega)]
      exact ⟨⟨by omega, by omega⟩, by omega, by omega, ln_eqs e1, by rw [e2], by rw [e3], by rw [e4]⟩
    · have h2 := of_decide_eq_false h2
      have h3 := of_decide_eq_false h3
      obtain ⟨e1, e2, e3, e4⟩ := re_4 hP he hm h1 h2 h3
      exact ⟨ln_eqs e1, by rw [e2]; rfl, by rw [e3], by rw [e4]⟩
end Go.Proofs.Ytknapnleecepaaa
