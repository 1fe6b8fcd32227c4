/- A part of the proof: symbolic evaluation of the program's functions, proved sound against the model; no condition. -/
import Derived.Test.YtfmndopgbikgjaaEvGE
namespace Go.Proofs.Ytfmndopgbikgjaa
open Go Go.RowKit Go.Ev
set_option linter.unusedSimpArgs false
set_option linter.unusedVariables false
set_option maxRecDepth 20000
theorem fd_x (s : Es) : fdS s [120, 120] = ⟨false, false⟩ := by obtain ⟨b, e⟩ := s; cases b <;> cases e <;> decide
theorem fd_r (s : Es) : fdS s [13, 13] = ⟨true, false⟩ := by obtain ⟨b, e⟩ := s; cases b <;> cases e <;> decide
theorem o_x (b : Int) : fdO ⟨false, false⟩ [126, b] = [126, b] := by
  have e : stS ⟨false, false⟩ 126 = ⟨false, false⟩ := by decide
  simp only [fdO, e]
  simp [stO]
theorem a_x (b : Int) : fdA ⟨false, false⟩ [126, b] = [] := by
  have e : stS ⟨false, false⟩ 126 = ⟨false, false⟩ := by decide
  simp only [fdA, e]
  simp [stA, aL]
theorem o_r (b : Int) : fdO ⟨true, false⟩ [126, b] = if act b ≠ 0 then [] else if b = 126 then [126] else [126, b] := by
  have e : stS ⟨true, false⟩ 126 = ⟨true, true⟩ := by decide
  simp only [fdO, e]
  simp [stO]
theorem a_r (b : Int) : fdA ⟨true, false⟩ [126, b] = aL (act b) := by
  have e : stS ⟨true, false⟩ 126 = ⟨true, true⟩ := by decide
  simp only [fdA, e]
  simp [stA, aL]
theorem look_act (b : Int) : lookI b [(46, 1), (66, 2), (82, 3), (63, 4)] = act b := rfl
set_option maxHeartbeats 4000000 in
theorem walk5 {Phi : Nat → Option Ctr} (P9 : Phi 9 = some CAw) (P10 : Phi 10 = some CSh) (P11 : Phi 11 = some CFd) (P15 : Phi 15 = some CNw) (L : List Int) (b : Int) (m : Bool) (hL : Okb L) (hb : 0 ≤ b ∧ b ≤ 255) : evC Phi (noI) rc5 ⟨initS [.lst [.int .u8 0] (u8s L), .int .u8 b, .bool m], initM false []⟩ (kRet rv5 (.bool true) false []) := by
  simp (config := {maxSteps := 2000000}) only [rc5, initM_f, rv5, evC_seq, evC_region, eo_mov, evG_no, Option.getD_some, ev_mov, av_c, gv_bool, bind1_some', un1_mov, goOp_some, put_q, evOps_nil, kEnd_at, hasG_no, hasG_nil, kEndB_f, kSeq_n, eo_call, P9, CAw, evCl_mk, ev_call, avs_nil, clE_some, callE_pure, lends_nil, callN_some, callP_some, List.nil_append, c2_bool, flat2_bool, backOK_nil, Bool.and_self, clQ_t, eo_not, ev_not, av_t, upd_at, ↓reduceIte, un1_not, Bool.not_true, evC_cond, evC_ret, kSeq_r, kRet_r, retOK_eq, retL_cons, retV_t, retL_nil, consO_some, lkR_one, lk1_bool, lkT_f, applyL_nil, retOK_f, rtO_some, resV_one, leV1_bool, and_true, knowL_nil, askL_nil, evC_skip, Nat.reduceEqDiff, initS_at, List.getD_cons_zero, gv_lst, eo_len, ev_len, len_lst, u8s_len, eo_cmp, ev_cmp, gv_int, cmp2_some, cmp_gtr, toR_some', and_self, P15, CNw, Es.av, c2_agg, List.all_cons, c0_bool, List.all_nil, flat2_agg, flat0_bool, P10, CSh, avs_cons, lends_cons, lend1_lst, consL_some', decU_u8s, true_and, c2_lst, flat2_lst, P11, CFd, gv_agg, lend1_agg, lendC_cons, lendA_bool, lendC_nil, aggL_some, c2_tup, c1_agg, c1_lst, flat2_tup, flat1_agg, flat1_lst, Bool.and_true, Bool.true_and, gv_tup, eo_extract, ev_extract, un1_extract, List.getElem?_cons_zero, List.getElem?_cons_succ, eo_alloc, ev_alloc, Nat.reduceMul, Nat.reduceAdd, put_n, killB_cells, List.map_cons, kill0_bool, List.map_nil, eo_store, ar_t, killS_at, kill3_agg, vwsT_ptr, frzL_nil, goF_eq, Option.getD_none, ev_store, gv_ptr, bind2_some', store_ptr, cells_agg, List.length_cons, List.length_nil, Nat.zero_add, updM_at, stB_cells, Nat.reduceLeDiff, decide_true, stC_true, setC_cons, List.set_cons_zero, List.set_cons_succ, setC_nil, put_s, liveB_cells, kill3_lst, List.getD_cons_succ, kill3_bool, eo_load, ev_load, load_ptr, ldB_cells, valOf_agg, valB_true, List.drop_zero, List.take_succ_cons, List.take_zero, ldV_some, eo_bslice, vwsG_cons, vws1_int, vwsG_nil, ev_bslice, List.replicate_succ, List.replicate_zero, fillS_cons, fsK_some, cells_int, fsC_some, Nat.reduceLT, c0_int, fillS_nil, blS_some, decU_cons, decU_nil, Es.eta, kill3_int, ar_c, evC_mreg, mregS_at, evC_block, evG_yes, pathG_bool, gG_some, guardR_q, guardL_nil, gv_gd, List.contains_cons, List.contains_nil, Bool.or_false, beq_self_eq_true, gvB_true, cmp_eql, pathG_gd, List.cons_append, Bool.true_or, Bool.or_true, cmp_neq, eo_pick, ev_pick, pick3_some, pickV_bool, Bool.cond_false_right, Bool.cond_true_left, hasG_yes, kEndB_t, evC_split, evOpsS_cons, evS1_none, pickOf, evS0k_none, ungdS_at, ungd_lst, evOpsSk_at, i64s_len, evS1_some, evSG_bool, eo_b2s, ev_b2s, b2s_lst, ByteE_u8s, bytesOf_u8s, ungd_int, eo_bsliceO, ev_bsliceO, blO2_some, killB_buf, gv_vw, b2s_vw, b2sB_buf, kill3_str, gv_str, cmp_eqlS, evS0k_some, pickS_bool, evOpsS_nil, kN_at, kBlk_r, askL_cons, Bool.false_eq_true, knowL_cons, guardL_cons, pathP_cons, boolOf_bool, pathP_nil, implies_true, ungd_bool, kBlk_n, eo_iaddrS, ev_iaddrS, iaddrS_lst, iasB_true, Int.reduceLE, Int.reduceToNat, load_ep, getE_i64, valOf_one, condK_bool, false_imp_iff, true_imp_iff]
  try simp only [iteP, iteF]
  intro _ hn
  have hn := of_decide_eq_false hn
  simp only [look_act, fd_x, fd_r, o_x, a_x, o_r, a_r]
  have e2 : b8 [126, b] = bytesOf [[AV.int .u8 126], [AV.int .u8 b]] := (bytesOf_u8s [126, b]).symm
  have e3 : ByteE [[AV.int .u8 126], [AV.int .u8 b]] := by
    have := ByteE_u8s [126, b]
    first | exact this | exact this.mpr trivial | (rw [eq_true_iff] at this; exact this) | (show ByteE (u8s [126, b]); simp only [ByteE_u8s])
  refine ⟨⟨hL, by omega⟩, by rw [shp_len]; omega, fun hm => ?_, fun hm => ?_⟩
  · subst hm
    refine ⟨rfl, rfl, fun _ _ => ⟨fun _ => ⟨e3, by rw [decide_eq_true e2]⟩, fun h => (by simp at h)⟩, fun h => (by simp at h)⟩
  · subst hm
    refine ⟨rfl, rfl, fun h1 _ => ?_, fun h1 => ⟨fun h2 _ => ?_, fun h2 _ => ?_⟩⟩
    · simp only [Bool.false_or, Bool.and_eq_true, decide_eq_true_eq, Bool.not_eq_true', decide_eq_false_iff_not] at h1
      obtain ⟨ha, h6⟩ := h1
      have ha : act b = 0 := of_decide_eq_true ha
      simp only [ha, h6, aL, ne_eq, not_true, if_true, if_false]
      exact ⟨fun _ => ⟨e3, by rw [decide_eq_true e2]⟩, fun h => (by simp at h)⟩
    · have ha := of_decide_eq_true h2
      have h6 : b = 126 := by
        simp only [ha, decide_true, Bool.false_or, Bool.true_and, Bool.not_eq_false', decide_eq_true_eq] at h1
        exact h1
      subst h6
      simp only [ha, aL, ne_eq, not_true, if_true, if_false]
      rfl
    · have ha := of_decide_eq_false h2
      simp [ha, aL]
end Go.Proofs.Ytfmndopgbikgjaa
