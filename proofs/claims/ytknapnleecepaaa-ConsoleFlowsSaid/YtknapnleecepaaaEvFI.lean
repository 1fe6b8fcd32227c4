/- A part of the proof: symbolic evaluation of the program's functions, proved sound against the model; no condition. -/
import Derived.Test.YtknapnleecepaaaEvFW
namespace Go.Proofs.Ytknapnleecepaaa
open Go Go.RowKit Go.Ev
set_option linter.unusedSimpArgs false
set_option linter.unusedVariables false
set_option maxRecDepth 20000
set_option maxHeartbeats 4000000 in
theorem walk6 {Phi : Nat → Option Ctr} (P8 : Phi 8 = some DAw) (P14 : Phi 14 = some DCo) (P32 : Phi 32 = some DNw) (P20 : Phi 20 = some DNe) (P33 : Phi 33 = some DLf) (P17 : Phi 17 = some DBy) (P21 : Phi 21 = some DWr) (P29 : Phi 29 = some DBr) (P23 : Phi 23 = some DPo) (P18 : Phi 18 = some DRe) (P16 : Phi 16 = some DGr) (l : List Int) (hL : Okb l) : evC Phi (I6 (l.take 200)) rc6 ⟨initS [.lst [.int .u8 0] (u8s l)], initM false []⟩ (kRet rv6 (.bool true) false []) := by
  simp (config := {maxSteps := 2000000, contextual := true}) only [rc6, initM_f, rv6, evC_seq, evC_region, eo_mov, evG_no, Option.getD_some, ev_mov, av_c, gv_bool, bind1_some', un1_mov, goOp_some, put_q, evOps_nil, kEnd_at, hasG_no, hasG_nil, kEndB_f, kSeq_n, eo_call, P8, DAw, evCl_mk, ev_call, avs_nil, clE_some, callE_pure, lends_nil, callN_some, callP_some, List.nil_append, c2_bool, flat2_bool, backOK_nil, Bool.and_self, clQ_t, eo_not, ev_not, av_t, upd_at, ↓reduceIte, un1_not, Bool.not_true, evC_cond, evC_ret, kSeq_r, kRet_r, retOK_eq, retL_cons, retV_t, retL_nil, consO_some, lkR_one, lk1_bool, lkT_f, applyL_nil, retOK_f, rtO_some, resV_one, leV1_bool, and_true, knowL_nil, askL_nil, evC_skip, Nat.reduceEqDiff, initS_at, List.getD_cons_zero, gv_lst, P14, DCo, evCl_ext, avs_cons, gv_int, evXV_some, evX_f, lends_cons, lend1_lst, lend1_int, consL_some', evXA_some, decU_u8s, and_self, Int.reduceLE, Int.reduceToNat, evXN_some, evXP_eq, wfX2_fp, List.all_cons, c0_lst, c0_int, List.all_nil, frs2_fp, idsOK_eq, List.map_cons, List.map_nil, nodupN_cons, List.contains_nil, Bool.not_false, nodupN_nil, Nat.reduceLT, decide_true, flatX2_fp, flat0_lst, flat0_int, Bool.and_true, flatL_cells, flatL_nil, evOpsk_at, backX_nil, putX_eq, unfr2_fp, Nat.reduceMul, Nat.reduceAdd, Nat.add_zero, addF_cons, addF_nil, putY_eq, gv_ptr, P32, DNw, Ln.av, c2_agg, c0_bool, flat2_agg, flat0_bool, Bool.true_and, eo_alloc, ev_alloc, put_n, killB_cells, kill0_nil, kill0_bool, kill0_int, eo_store, ar_t, killS_at, kill3_agg, kill0_lst, kill3_ptr, vwsT_ptr, frzL_nil, goF_eq, Option.getD_none, ev_store, gv_agg, bind2_some', store_ptr, cells_agg, List.length_cons, List.length_nil, Nat.zero_add, updM_at, killM_at, killO_some, stB_cells, Nat.reduceLeDiff, stC_true, setC_cons, List.set_cons_zero, List.set_cons_succ, setC_nil, put_s, liveB_cells, P20, DNe, callE_state, callC_cells, callB_some, u8s_len, true_and, callD_t, callS_some, c2_int, flat2_int, clU_t, put_u, eo_faddr, ev_faddr, faddr_ptr, cells_int, gv_nil, evC_block, evC_loop, I6_0, L6aS, S6a, SL_ge, lkL_cons, lkS_ptr, lkS_nil_vw, lookM_cons, nlK_buf, lkS_int, lkS_nil_lst, lkL_nil, List.cons_append, lkM_cons, lkB_cells, lkC_cons, lkC0_lst, lkC0_int, lkC_nil, lkC0_bool, killO_none, lkB_buf, lkM_nil, applyL_nls, nlV_nil, nlP_t, kill3_nil, SL_ge0, leL_cons, leV1_ptr, kill3_vw, leV1_vw, kill3_int, leV1_int, leV1_nil, leA_nil, leL_nil, leM_cons, leB_cells, leAs_cons, leA_lst, leA_int, leAs_nil, leA_bool, killB_buf, leB_buf, leM_nil, L6aR, SL_st, lookL_cons, eo_cmp, ev_cmp, cmp2_some, cmp_lss, toR_some', P33, DLf, evG_yes, pathG_bool, gG_some, guardR_q, guardL_nil, eo_call_g, gv_gd, List.contains_cons, Bool.or_false, beq_self_eq_true, gvB_true, guardR_u, pathB_cons, boolOf_bool, beqO_some, pathB_nil, mergeU_eq1, mgC_cells, mergeL_cons, mergeA_lst, Bool.cond_self, mergeA_int, mergeL_nil, mgU_some, guardU_some, guardL_cons, pathP_cons, pathP_nil, cmp_eql, eo_pick, ev_pick, pick3_some, pickV_bool, Bool.cond_false_right, hasG_yes, kEndB_t, evC_cut, I6_8, L6iS, S6i, ungdS_at, ungd_ptr, ungd_vw, lkS_vw_vw, renK_t, ungd_int, ungd_lst, lkS_lst, ungd_bool, lkS_bool, leV1_lst, L6iR, I6_1, L6bS, S6b, L6bR, condK_bool, askL_cons, evC_exit, kSeq_e, kLoop_e, kBlk_e, kBlkB_t, gv_vw, eo_b2s, ev_b2s, b2s_vw, b2sB_buf, ByteE_u8s, bytesOf_u8s, gv_str, cmp_eqlS, cmp_gtr, cmp_eqlB, true_imp_iff, Bool.false_eq_true, false_imp_iff]
  try simp only [iteP, iteF]
  intro _
  have h200 : (l.take 200).length ≤ 200 := by rw [List.length_take]; omega
  have hT : Okb (l.take 200) := hL.take 200
  have hc0 := cnA_rg (L := l.take 200) (t := 0) ⟨Int.le_refl _, by omega⟩ 100
  have hv0 := cn_bd hT (a := 0) (n := 100) (by omega)
  refine ⟨⟨by omega, hT⟩, ⟨{ l0 with ro := 1024 }, { l0 with ro := cnV (l.take 200) 0 100 }, [], [], [], 0, 0, 0, cnA (l.take 200) 0 100, ⟨⟨.new (by decide), .new (by omega), rfl, rfl, rfl, rfl, rfl, fun _ => rfl, fun e => (by cases e), rfl, Nat.le_refl _, fun e => absurd e (by decide), Nat.zero_le _, by omega, hc0.2, by omega⟩, .inl rfl, fun _ => ⟨by omega, by show (0 : Int) ≤ _; omega⟩, fun _ => ⟨0, by omega, fun e => absurd e (by decide), fun e => absurd e (by decide)⟩⟩⟩, ⟨⟨rfl, rfl, rfl, rfl⟩, rfl, ⟨rfl, rfl, rfl, rfl, rfl, rfl, rfl, rfl, rfl, rfl⟩, ⟨rfl, rfl, rfl, rfl, rfl, rfl, rfl, rfl, rfl, rfl⟩, rfl, rfl⟩, ?_⟩
  rintro ⟨a, b, I, O, la, ws, bs, i, t, h⟩
  dsimp only
  refine ⟨fun hc => ?_, fun hc => ?_⟩
  · have hi := of_decide_eq_true hc
    obtain ⟨hs, hf, hp1, hp2⟩ := h
    have t0 := hs.t0
    have t1 := hs.t1
    by_cases ht : t < ((l.take 200).length : Int)
    · rw [decide_eq_true ht]
      obtain ⟨p1, p2⟩ := hp1 ht
      have hcn := cnA_up ht (k := 3) (by omega)
      have kw := hs.kw
      have hs' := hs.cn 3
      refine ⟨fun _ => ⟨by omega, t0, hT⟩, fun _ => ⟨⟨a, b, I, O, la, ws, bs, i, cnA (l.take 200) t 3, ⟨hs', hf, by omega, by omega, by omega⟩⟩, ⟨⟨rfl, rfl, rfl, rfl, rfl⟩, rfl, ⟨rfl, rfl, rfl, rfl, rfl, rfl, rfl, rfl, rfl, rfl⟩, ⟨rfl, rfl, rfl, rfl, rfl, rfl, rfl, rfl, rfl, rfl⟩, rfl, rfl⟩, fun k hk => t6W P20 P17 P21 P29 P23 P18 P16 ⟨h200, hT⟩ (by show i < 400; omega) k hk⟩, fun _ => ⟨⟨a, b, I, O, la, ws, bs, i, cnA (l.take 200) t 3, false, ⟨hs', hf, ⟨fun _ => ⟨by omega, fun _ => by omega⟩, fun e => (by cases e)⟩⟩⟩, ⟨⟨rfl, rfl, rfl, rfl, rfl⟩, rfl, ⟨rfl, rfl, rfl, rfl, rfl, rfl, rfl, rfl, rfl, rfl⟩, ⟨rfl, rfl, rfl, rfl, rfl, rfl, rfl, rfl, rfl, rfl⟩, rfl, rfl⟩, fun k hk => t6A P20 P17 P21 P29 P23 P18 P16 ⟨h200, hT⟩ (by show i < 400; omega) k hk⟩⟩
    · rw [decide_eq_false ht]
      obtain ⟨j, hj, q⟩ := hp2 (by omega)
      refine ⟨fun e => (by cases e), fun e => (by cases e), fun _ => ⟨⟨a, b, I, O, la, ws, bs, i, t, true, ⟨hs, hf, ⟨fun e => (by cases e), fun _ => ⟨by omega, j, hj, q⟩⟩⟩⟩, ⟨⟨rfl, rfl, rfl, rfl, rfl⟩, rfl, ⟨rfl, rfl, rfl, rfl, rfl, rfl, rfl, rfl, rfl, rfl⟩, ⟨rfl, rfl, rfl, rfl, rfl, rfl, rfl, rfl, rfl, rfl⟩, rfl, rfl⟩, fun k hk => t6A P20 P17 P21 P29 P23 P18 P16 ⟨h200, hT⟩ (by show i < 400; omega) k hk⟩⟩
  · have hi := of_decide_eq_false hc
    obtain ⟨e1, e2⟩ := h.end h200 (by omega)
    subst e1
    have e4 : decide ((0 : Int) < (bs : Int)) = decide ((0 : Int) < (ws : Int)) := by rw [decide_eq_decide]; omega
    rw [e4, decide_eq_true (Eq.refl (b8 I))]
    simp
end Go.Proofs.Ytknapnleecepaaa
