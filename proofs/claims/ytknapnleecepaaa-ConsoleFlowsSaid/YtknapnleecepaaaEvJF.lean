/- A part of the proof: symbolic evaluation of the program's functions, proved sound against the model; no condition. -/
import Derived.Test.YtknapnleecepaaaEvJE
namespace Go.Proofs.Ytknapnleecepaaa
open Go Go.RowKit Go.Ev
set_option linter.unusedSimpArgs false
set_option linter.unusedVariables false
set_option maxRecDepth 20000
set_option maxHeartbeats 4000000 in
theorem walk23 {Phi : Nat → Option Ctr} (P25 : Phi 25 = some DVa) (P38 : Phi 38 = some DCn) (P39 : Phi 39 = some DNx) (P9 : Phi 9 = some DEn) (l : Ln) (hb : Bd l) : evC Phi (noI) rc23 ⟨initS [l.av], initM false []⟩ (kRet rv23 (.tup [(poL l).av, .lst [.int .u8 0] (u8s (poB l)), .bool (poK l)]) false []) := by
  simp (config := {maxSteps := 2000000}) only [rc23, Ln.av, initM_f, rv23, evC_seq, evC_region, eo_box, evG_no, Option.getD_some, ev_box, av_t, initS_at, List.getD_cons_zero, gv_agg, bind1_some', boxR_eq, cells_agg, List.length_cons, List.length_nil, Nat.zero_add, Nat.reduceAdd, ↓reduceIte, bxO_some, Nat.mul_one, goOp_some, put_n, killB_cells, List.map_cons, kill0_lst, kill0_bool, kill0_int, List.map_nil, eo_alloc, ev_alloc, Nat.reduceMul, kill0_nil, eo_mov, ev_mov, av_c, gv_nil, un1_mov, put_q, gv_bool, evOps_nil, kEnd_at, hasG_no, hasG_nil, kEndB_f, kSeq_n, eo_load, ev_load, upd_at, Nat.reduceEqDiff, killS_at, kill3_ptr, gv_ptr, load_ptr, updM_at, killM_at, killO_some, ldB_cells, valOf_agg, Nat.reduceLeDiff, decide_true, valB_true, List.drop_zero, List.take_succ_cons, List.take_zero, ldV_some, eo_call, P38, DCn, evCl_ext, avs_cons, avs_nil, consO_some, evXV_some, evX_f, lends_cons, lend1_agg, lendC_cons, lendA_lst, lendA_bool, lendA_int, lendC_nil, consL_some', List.nil_append, aggL_some, lends_nil, evXA_some, decU_u8s, and_self, u8s_len, true_and, evXN_some, evXP_eq, wfX2_agg, List.all_cons, wfX0_fr, Nat.reduceLT, wfX0_bool, wfX0_int, List.all_nil, Bool.and_self, frs2_agg, frsL_cons, frs0_fr, frs0_bool, frs0_int, frsL_nil, List.cons_append, idsOK_eq, nodupN_cons, List.contains_cons, Nat.reduceBEq, List.contains_nil, Bool.or_false, Bool.not_false, nodupN_nil, flatX2_agg, flatX0_fr, flatC_int, flatX0_bool, flatX0_int, flatL_buf, flatL_nil, and_true, evOpsk_at, eo_store, knowL_nil, askL_nil, backX_nil, putX_eq, unfr2_agg, unfr0_fr, Nat.add_zero, unfr0_bool, unfr0_int, addF_cons, addF_nil, putY_eq, ar_t, kill3_agg, kill0_vw, vwsT_ptr, frzL_nil, goF_eq, Option.getD_none, ev_store, bind2_some', store_ptr, stB_cells, stC_true, setC_cons, List.set_cons_zero, List.set_cons_succ, setC_nil, put_s, liveB_cells, P25, DVa, evCl_mk, ev_call, clE_some, callE_pure, callN_some, Ln.eta, callP_some, c2_bool, flat2_bool, backOK_nil, clQ_t, eo_not, ev_not, un1_not, evC_cond, evC_ret, kSeq_r, kRet_r, retOK_eq, retL_cons, retV_c, rvP_ptr, rvB_cells, retV_t, retL_nil, lkR_two, lkVs_cons, lk1_agg, lkAs_cons, lk0_vw_lst, lk0_bool, lk0_int, lkAs_nil, lk1_nil, lk1_bool, lkVs_nil, lkT_f, applyL_frz, killB_buf, frzQ_buf, frzP_t, frzM_at, frzO_some, frzB_buf, applyL_nil, retOK_f, frzSl_at, frz3_ptr, frzB_cells, frz0_vw, frz0_bool, frz0_int, frz0_lst, frz3_nil, frz3_bool, rtO_some, resV_two, leVs_cons, leV1_agg, leAs_cons, leA_lst, leA_bool, leA_int, leAs_nil, leV1_nil, leA_nil, leV1_bool, leVs_nil, evC_skip, eo_faddr, ev_faddr, faddr_ptr, valOf_one, List.getElem?_cons_succ, List.getElem?_cons_zero, evG_yes, pathG_bool, gG_some, guardR_q, guardL_nil, gv_gd, beq_self_eq_true, gvB_true, eo_len, ev_len, len_vw, lenV_buf, eo_cmp, ev_cmp, gv_int, cmp2_some, cmp_gtr, toR_some', pathG_gd, Bool.true_or, Bool.or_true, eo_pick, ev_pick, pick3_some, pickV_bool, Bool.cond_true_left, Bool.cond_false_right, hasG_yes, kEndB_t, ungdS_at, ungd_ptr, gv_vw, eo_minmax, ev_minmax, mmO_some, mm_min, mm_nil, evC_draw, preK_some, needD_mov, preB_f, needD_mkslice, preB_t, needD_faddr, needD_load, needD_slice, needD_appD, preK_none, preK_nil, evD_cons, kill3_int, evDk_some, newOK_none, ev_mkslice, mk_int, Int.reduceLE, Int.reduceToNat, List.replicate_zero, newOK_some, deadL_nil, liveB_buf, ev_slice, boundA_none, boundA_some, optS_some, sliceO_some, slice_vw, slB_buf, loOf_none, hiOf_int, slV_some, ev_appD, gv_sv, appDR_vw, ysOf_sv, ysP_buf, ysQ_t, u8s_take, appDV_buf, appDK_some, deadL_dead, put_nd, cells_vw, evD_nil, needD_copy, loOf_int, hiOf_none, Int.toNat_natCast, ev_copy, cpR_vw, u8s_drop, cpB_buf, cpK_t, u8s_join, put_u, cells_sv, cells_bool, ar_c, P39, DNx, lend1_int, c2_int, flat2_int, cells_int, Bool.not_true, cmp_eql, lk0_sv_lst, frz0_sv, kill0_sv, cmp_neq, evC_ghost, vws0_vw, frzL_cons, P9, DEn, c2_tup, c1_lst, c1_int, flat2_tup, flat1_lst, flat1_int, Bool.and_true, gv_tup, eo_extract, ev_extract, un1_extract, gv_lst, frz0_nil, lk0_lst, lk1_lst, frz3_lst, leV1_lst, askL_cons, knowD_cons, knowD_nil, pairD_cons, pairOK_eq, newMen_none, pairB_t, pairD_nil, pairB_f, chkR_eq, pslots_junk, optN_some, disjN_nil, pslots_int, optN_none, newI_none, disjN_cons, pslots_ptr, condK_bool, pslots_bool, pslots_vw, List.getD_cons_succ, List.getD_nil, kill3_junk, ungd_junk, vws0_junk, lendA_nil, true_imp_iff, Bool.true_eq_false, false_imp_iff, ungd_bool, pslots_sv, newMen_some, noMen_eq, kill3_sv, noB_none, kill3_vw, noB_some, newI_some, knowL_cons]
  refine ⟨hb, fun _ => ⟨hb, fun h => ?_, fun h => ?_⟩⟩
  · have hP : ¬ lnP l := by simpa using h
    obtain ⟨e1, e2, e3⟩ := po_no hP
    exact ⟨ln_eqs e1, by rw [e2]; rfl, by rw [e3]⟩
  have hP : lnP l := by simpa using h
  have hb1 := hb.1
  have hb2 := hb.2
  simp only [po_n, po_d, po_t, po_y]
  have h64 : (l.w.take 64).length ≤ 64 := by rw [List.length_take]; omega
  have hd : (l.w.drop 64).length ≤ l.w.length := by rw [List.length_drop]; omega
  refine ⟨fun hf _ => ?_, fun hf => ?_⟩
  · have hF : l.bu = false ∧ (l.w.length ≠ 0 ∨ l.wi = true) := by
      simp only [Bool.and_eq_true, Bool.not_eq_true', Bool.or_eq_true, decide_eq_true_eq] at hf
      exact ⟨hf.1, hf.2.imp (fun h => by omega) id⟩
    have hM := (if_pos hF : poM l = _)
    refine ⟨⟨by omega, by omega, by omega⟩, ⟨by omega, by omega⟩, by omega, by omega, ⟨by omega, by omega, by omega⟩, ⟨by omega, by simp only [List.length_append, List.length_take, List.length_drop]; omega⟩, fun hk => (by simp at hk), fun _ => ⟨fun ha => ?_, fun ha => ?_⟩⟩
    · have ha : l.ak ≠ 0 := by simpa using ha
      obtain ⟨e1, e2, e3⟩ := po_do hP hM (.inl rfl) (c := ⟨nx l.sq, l.ak, l.ct, l.wi, l.w.take 64⟩) (by simp [poC, ha])
      exact ⟨by omega, ln_eqs e1, by rw [e2], by rw [e3]⟩
    · have ha : l.ak = 0 := by simpa using ha
      obtain ⟨e1, e2, e3⟩ := po_do hP hM (.inl rfl) (c := ⟨nx l.sq, 0, 0, l.wi, l.w.take 64⟩) (by simp [poC, ha])
      exact ⟨by omega, ln_eqs (e1.trans (by rw [ha])), by rw [e2], by rw [e3]⟩
  · have hF : ¬ (l.bu = false ∧ (l.w.length ≠ 0 ∨ l.wi = true)) := by
      rintro ⟨h1, h2⟩
      rw [h1] at hf
      rcases h2 with h2 | h2
      · rw [decide_eq_true (show (0 : Int) < l.w.length by omega)] at hf; cases hf
      · rw [h2, Bool.or_true] at hf; cases hf
    have hM := (if_neg hF : poM l = l)
    refine ⟨fun hk => ?_, fun hk => ⟨fun hbu => ⟨fun ha => ?_, fun ha => ?_⟩, fun hbu => ⟨fun ha => ?_, fun ha => ?_⟩⟩⟩
    · simp only [Bool.and_eq_true, Bool.not_eq_true', decide_eq_true_eq] at hk
      obtain ⟨e1, e2, e3⟩ := po_id hP hM hk.1 hk.2
      exact ⟨ln_eqs e1, by rw [e2]; rfl, by rw [e3]⟩
    · have ha : l.ak ≠ 0 := by simpa using ha
      obtain ⟨e1, e2, e3⟩ := po_do hP hM (.inl hbu) (c := ⟨l.sq, l.ak, l.ct, l.sb, l.s⟩) (by simp [poC, hbu, ha])
      exact ⟨by omega, ln_eqs e1, by rw [e2], by rw [e3]⟩
    · have ha : l.ak = 0 := by simpa using ha
      obtain ⟨e1, e2, e3⟩ := po_do hP hM (.inl hbu) (c := ⟨l.sq, 0, 0, l.sb, l.s⟩) (by simp [poC, hbu, ha])
      exact ⟨by omega, ln_eqs (e1.trans (by rw [ha])), by rw [e2], by rw [e3]⟩
    · have ha : l.ak ≠ 0 := by simpa using ha
      obtain ⟨e1, e2, e3⟩ := po_do hP hM (.inr ha) (c := ⟨0, l.ak, l.ct, false, []⟩) (by simp [poC, hbu, ha])
      exact ⟨ln_eqs e1, by rw [e2], by rw [e3]⟩
    · have ha : l.ak = 0 := by simpa using ha
      rw [hbu, ha] at hk; simp at hk
set_option maxHeartbeats 4000000 in
theorem walk24 {Phi : Nat → Option Ctr} (P26 : Phi 26 = some DVa) (P40 : Phi 40 = some DCn) (P41 : Phi 41 = some DNx) (P10 : Phi 10 = some DEn) (l : Ln) (hb : Bd l) : evC Phi (noI) rc24 ⟨initS [l.av], initM false []⟩ (kRet rv24 (.tup [(poL l).av, .lst [.int .u8 0] (u8s (poB l)), .bool (poK l)]) false []) := by
  simp (config := {maxSteps := 2000000}) only [rc24, Ln.av, initM_f, rv24, evC_seq, evC_region, eo_box, evG_no, Option.getD_some, ev_box, av_t, initS_at, List.getD_cons_zero, gv_agg, bind1_some', boxR_eq, cells_agg, List.length_cons, List.length_nil, Nat.zero_add, Nat.reduceAdd, ↓reduceIte, bxO_some, Nat.mul_one, goOp_some, put_n, killB_cells, List.map_cons, kill0_lst, kill0_bool, kill0_int, List.map_nil, eo_alloc, ev_alloc, Nat.reduceMul, kill0_nil, eo_mov, ev_mov, av_c, gv_nil, un1_mov, put_q, gv_bool, evOps_nil, kEnd_at, hasG_no, hasG_nil, kEndB_f, kSeq_n, eo_load, ev_load, upd_at, Nat.reduceEqDiff, killS_at, kill3_ptr, gv_ptr, load_ptr, updM_at, killM_at, killO_some, ldB_cells, valOf_agg, Nat.reduceLeDiff, decide_true, valB_true, List.drop_zero, List.take_succ_cons, List.take_zero, ldV_some, eo_call, P40, DCn, evCl_ext, avs_cons, avs_nil, consO_some, evXV_some, evX_f, lends_cons, lend1_agg, lendC_cons, lendA_lst, lendA_bool, lendA_int, lendC_nil, consL_some', List.nil_append, aggL_some, lends_nil, evXA_some, decU_u8s, and_self, u8s_len, true_and, evXN_some, evXP_eq, wfX2_agg, List.all_cons, wfX0_fr, Nat.reduceLT, wfX0_bool, wfX0_int, List.all_nil, Bool.and_self, frs2_agg, frsL_cons, frs0_fr, frs0_bool, frs0_int, frsL_nil, List.cons_append, idsOK_eq, nodupN_cons, List.contains_cons, Nat.reduceBEq, List.contains_nil, Bool.or_false, Bool.not_false, nodupN_nil, flatX2_agg, flatX0_fr, flatC_int, flatX0_bool, flatX0_int, flatL_buf, flatL_nil, and_true, evOpsk_at, eo_store, backX_nil, putX_eq, unfr2_agg, unfr0_fr, Nat.add_zero, unfr0_bool, unfr0_int, addF_cons, addF_nil, putY_eq, ar_t, vwsT_ptr, frzL_nil, goF_eq, Option.getD_none, ev_store, bind2_some', store_ptr, stB_cells, stC_true, setC_cons, List.set_cons_zero, List.set_cons_succ, setC_nil, put_s, liveB_cells, P26, DVa, evCl_mk, ev_call, clE_some, callE_pure, lendA_vw, killB_buf, lendB_buf, callN_some, Ln.eta, callP_some, c2_bool, flat2_bool, backOK_cons, clQ_t, eo_not, ev_not, un1_not, evC_cond, evC_ret, kSeq_r, kRet_r, retOK_eq, retL_cons, retV_c, rvP_ptr, rvB_cells, retV_t, retL_nil, lkR_two, lkVs_cons, lk1_agg, lkAs_cons, lk0_vw_lst, lk0_bool, lk0_int, lkAs_nil, lk1_nil, lk1_bool, lkVs_nil, lkT_f, applyL_frz, frzQ_buf, frzP_t, frzM_at, frzO_some, frzB_buf, applyL_nil, retOK_f, frzSl_at, frz3_ptr, frzB_cells, frz0_vw, frz0_bool, frz0_int, frz0_lst, frz3_nil, frz3_bool, rtO_some, resV_two, leVs_cons, leV1_agg, leAs_cons, leA_lst, leA_bool, leA_int, leAs_nil, leV1_nil, leA_nil, leV1_bool, leVs_nil, knowL_nil, askL_nil, evC_skip, eo_faddr, ev_faddr, faddr_ptr, valOf_one, List.getElem?_cons_succ, List.getElem?_cons_zero, evG_yes, pathG_bool, gG_some, guardR_q, guardL_nil, gv_gd, beq_self_eq_true, gvB_true, eo_len, ev_len, len_vw, lenV_buf, eo_cmp, ev_cmp, gv_int, cmp2_some, cmp_gtr, toR_some', pathG_gd, Bool.true_or, Bool.or_true, eo_pick, ev_pick, pick3_some, pickV_bool, Bool.cond_true_left, Bool.cond_false_right, hasG_yes, kEndB_t, ungdS_at, ungd_ptr, gv_vw, eo_minmax, ev_minmax, mmO_some, mm_min, mm_nil, evC_draw, preK_some, needD_faddr, preB_f, needD_load, needD_mov, needD_slice, needD_appD, preB_t, preK_none, preK_nil, evD_cons, evDk_some, newOK_none, kill0_vw, kill3_int, ev_slice, boundA_none, boundA_some, optS_some, sliceO_some, slice_vw, slB_buf, loOf_none, hiOf_int, slV_some, Int.reduceLE, Int.reduceToNat, ev_appD, gv_sv, appDR_nil, appR_nil, ysOf_sv, ysP_buf, ysQ_t, u8s_take, appK_some, newOK_some, deadL_nil, liveB_buf, loOf_int, hiOf_none, Int.toNat_natCast, u8s_drop, kill3_vw, cells_vw, evD_nil, needD_call, P41, DNx, lend1_int, c2_int, flat2_int, backOK_nil, cells_bool, cells_int, Bool.not_true, cmp_eql, cmp_neq, evC_ghost, vws0_vw, frzL_cons, P10, DEn, c2_tup, c1_lst, c1_int, flat2_tup, flat1_lst, flat1_int, Bool.and_true, gv_tup, eo_extract, ev_extract, un1_extract, gv_lst, frz0_nil, lk0_lst, lk1_lst, frz3_lst, leV1_lst, askL_cons, knowD_cons, knowD_nil, pairD_cons, pairOK_eq, newMen_none, pairB_t, pairD_nil, pairB_f, chkR_eq, pslots_junk, optN_some, disjN_nil, pslots_int, optN_none, newI_none, disjN_cons, pslots_ptr, condK_bool, pslots_bool, pslots_vw, List.getD_cons_succ, List.getD_nil, kill3_junk, ungd_junk, vws0_junk, lendA_nil, true_imp_iff, Bool.true_eq_false, false_imp_iff, ungd_bool, newI_some, newMen_some, noMen_eq, noB_none, pslots_sv, kill3_sv, noB_some, knowL_cons]
  refine ⟨hb, fun _ => ⟨hb, fun h => ?_, fun h => ?_⟩⟩
  · have hP : ¬ lnP l := by simpa using h
    obtain ⟨e1, e2, e3⟩ := po_no hP
    exact ⟨ln_eqs e1, by rw [e2]; rfl, by rw [e3]⟩
  have hP : lnP l := by simpa using h
  have hb1 := hb.1
  have hb2 := hb.2
  simp only [po_n, po_d, po_t, po_y]
  have h64 : (l.w.take 64).length ≤ 64 := by rw [List.length_take]; omega
  have hd : (l.w.drop 64).length ≤ l.w.length := by rw [List.length_drop]; omega
  refine ⟨fun hf _ => ?_, fun hf => ?_⟩
  · have hF : l.bu = false ∧ (l.w.length ≠ 0 ∨ l.wi = true) := by
      simp only [Bool.and_eq_true, Bool.not_eq_true', Bool.or_eq_true, decide_eq_true_eq] at hf
      exact ⟨hf.1, hf.2.imp (fun h => by omega) id⟩
    have hM := (if_pos hF : poM l = _)
    refine ⟨⟨by omega, by omega⟩, by omega, by omega, ⟨by omega, by omega, by omega⟩, by omega, by omega, fun hk => (by simp at hk), fun _ => ⟨fun ha => ?_, fun ha => ?_⟩⟩
    · have ha : l.ak ≠ 0 := by simpa using ha
      obtain ⟨e1, e2, e3⟩ := po_do hP hM (.inl rfl) (c := ⟨nx l.sq, l.ak, l.ct, l.wi, l.w.take 64⟩) (by simp [poC, ha])
      exact ⟨by omega, ln_eqs e1, by rw [e2], by rw [e3]⟩
    · have ha : l.ak = 0 := by simpa using ha
      obtain ⟨e1, e2, e3⟩ := po_do hP hM (.inl rfl) (c := ⟨nx l.sq, 0, 0, l.wi, l.w.take 64⟩) (by simp [poC, ha])
      exact ⟨by omega, ln_eqs (e1.trans (by rw [ha])), by rw [e2], by rw [e3]⟩
  · have hF : ¬ (l.bu = false ∧ (l.w.length ≠ 0 ∨ l.wi = true)) := by
      rintro ⟨h1, h2⟩
      rw [h1] at hf
      rcases h2 with h2 | h2
      · rw [decide_eq_true (show (0 : Int) < l.w.length by omega)] at hf; cases hf
      · rw [h2, Bool.or_true] at hf; cases hf
    have hM := (if_neg hF : poM l = l)
    refine ⟨fun hk => ?_, fun hk => ⟨fun hbu => ⟨fun ha => ?_, fun ha => ?_⟩, fun hbu => ⟨fun ha => ?_, fun ha => ?_⟩⟩⟩
    · simp only [Bool.and_eq_true, Bool.not_eq_true', decide_eq_true_eq] at hk
      obtain ⟨e1, e2, e3⟩ := po_id hP hM hk.1 hk.2
      exact ⟨ln_eqs e1, by rw [e2]; rfl, by rw [e3]⟩
    · have ha : l.ak ≠ 0 := by simpa using ha
      obtain ⟨e1, e2, e3⟩ := po_do hP hM (.inl hbu) (c := ⟨l.sq, l.ak, l.ct, l.sb, l.s⟩) (by simp [poC, hbu, ha])
      exact ⟨by omega, ln_eqs e1, by rw [e2], by rw [e3]⟩
    · have ha : l.ak = 0 := by simpa using ha
      obtain ⟨e1, e2, e3⟩ := po_do hP hM (.inl hbu) (c := ⟨l.sq, 0, 0, l.sb, l.s⟩) (by simp [poC, hbu, ha])
      exact ⟨by omega, ln_eqs (e1.trans (by rw [ha])), by rw [e2], by rw [e3]⟩
    · have ha : l.ak ≠ 0 := by simpa using ha
      obtain ⟨e1, e2, e3⟩ := po_do hP hM (.inr ha) (c := ⟨0, l.ak, l.ct, false, []⟩) (by simp [poC, hbu, ha])
      exact ⟨ln_eqs e1, by rw [e2], by rw [e3]⟩
    · have ha : l.ak = 0 := by simpa using ha
      rw [hbu, ha] at hk; simp at hk
end Go.Proofs.Ytknapnleecepaaa
