/- A part of the proof: symbolic evaluation of the program's functions, proved sound against the model; no condition. -/
import Derived.Test.YtknapnleecepaaaEvJV
namespace Go.Proofs.Ytknapnleecepaaa
open Go Go.RowKit Go.Ev
set_option linter.unusedSimpArgs false
set_option linter.unusedVariables false
set_option maxRecDepth 20000
theorem st5 {raw data L : List Int} {m : Int} {i : Nat} {a b c d : Ln} {W : List (List Int)} {t : Int} (hi : i < 4) (ha : OkX a) (hb : OkX b) (hc : OkX c) (hd : OkX d) (hW : OkW W) (hl : W.length ≤ 256) (ht : 0 ≤ t) :
    ∃ j : K5a raw data m L, ((AV.lst [AV.nil] (wrs W) = AV.lst [AV.nil] (wrs j.W) ∧ AV.lst [.nil, .bool false, .nil, .bool false, .bool false, .int .i64 0, .int .i64 0, .int .i64 0, .int .i64 0, .int .i64 0] [[.lst [.int .u8 0] (u8s a.w), .bool a.wi, .lst [.int .u8 0] (u8s a.s), .bool a.sb, .bool a.bu, .int .i64 a.sq, .int .i64 a.rc, .int .i64 a.ro, .int .i64 a.ak, .int .i64 a.ct], [.lst [.int .u8 0] (u8s b.w), .bool b.wi, .lst [.int .u8 0] (u8s b.s), .bool b.sb, .bool b.bu, .int .i64 b.sq, .int .i64 b.rc, .int .i64 b.ro, .int .i64 b.ak, .int .i64 b.ct], [.lst [.int .u8 0] (u8s c.w), .bool c.wi, .lst [.int .u8 0] (u8s c.s), .bool c.sb, .bool c.bu, .int .i64 c.sq, .int .i64 c.rc, .int .i64 c.ro, .int .i64 c.ak, .int .i64 c.ct], [.lst [.int .u8 0] (u8s d.w), .bool d.wi, .lst [.int .u8 0] (u8s d.s), .bool d.sb, .bool d.bu, .int .i64 d.sq, .int .i64 d.rc, .int .i64 d.ro, .int .i64 d.ak, .int .i64 d.ct]] = AV.lst [.nil, .bool false, .nil, .bool false, .bool false, .int .i64 0, .int .i64 0, .int .i64 0, .int .i64 0, .int .i64 0] [[.lst [.int .u8 0] (u8s j.a.w), .bool j.a.wi, .lst [.int .u8 0] (u8s j.a.s), .bool j.a.sb, .bool j.a.bu, .int .i64 j.a.sq, .int .i64 j.a.rc, .int .i64 j.a.ro, .int .i64 j.a.ak, .int .i64 j.a.ct], [.lst [.int .u8 0] (u8s j.b.w), .bool j.b.wi, .lst [.int .u8 0] (u8s j.b.s), .bool j.b.sb, .bool j.b.bu, .int .i64 j.b.sq, .int .i64 j.b.rc, .int .i64 j.b.ro, .int .i64 j.b.ak, .int .i64 j.b.ct], [.lst [.int .u8 0] (u8s j.c.w), .bool j.c.wi, .lst [.int .u8 0] (u8s j.c.s), .bool j.c.sb, .bool j.c.bu, .int .i64 j.c.sq, .int .i64 j.c.rc, .int .i64 j.c.ro, .int .i64 j.c.ak, .int .i64 j.c.ct], [.lst [.int .u8 0] (u8s j.d.w), .bool j.d.wi, .lst [.int .u8 0] (u8s j.d.s), .bool j.d.sb, .bool j.d.bu, .int .i64 j.d.sq, .int .i64 j.d.rc, .int .i64 j.d.ro, .int .i64 j.d.ak, .int .i64 j.d.ct]] ∧ AV.int .i64 (IntKind.i64.wrap ((i : Int) + 1)) = AV.int .i64 (j.i : Int)) ∧ AV.int .i64 t = AV.int .i64 j.t) ∧ 4 - j.i < 4 - i :=
  ⟨⟨i + 1, a, b, c, d, W, t, by omega, ha, hb, hc, hd, hW, hl, ht⟩, ⟨⟨rfl, rfl, AV.int_inj' (wr_succ i (by omega))⟩, rfl⟩, by dsimp only; omega⟩
set_option maxHeartbeats 4000000 in
theorem walk5 {Phi : Nat → Option Ctr} (P8 : Phi 8 = some DAw) (P14 : Phi 14 = some DCo) (P15 : Phi 15 = some DPl) (P19 : Phi 19 = some DOd) (P20 : Phi 20 = some DNe) (P21 : Phi 21 = some DWr) (P22 : Phi 22 = some DWr) (P23 : Phi 23 = some DPo) (P24 : Phi 24 = some DPo) (P25 : Phi 25 = some DVa) (P26 : Phi 26 = some DVa) (P27 : Phi 27 = some DSa) (P18 : Phi 18 = some DRe) (P28 : Phi 28 = some DRe) (P29 : Phi 29 = some DBr) (P30 : Phi 30 = some DBr) (P16 : Phi 16 = some DGr) (P31 : Phi 31 = some DGr) (l raw data : List Int) (m : Int) (hL : Okb l) (hraw : Okb raw) (hdata : Okb data) (hT : Okb (l.take 300)) : evC Phi (I5 raw data m (l.take 300)) rc5 ⟨initS [.lst [.int .u8 0] (u8s l), .lst [.int .u8 0] (u8s raw), .lst [.int .u8 0] (u8s data), .int .i64 m], initM false []⟩ (kRet rv5 (.bool true) false []) := by
  simp (config := {maxSteps := 2000000, contextual := true}) only [rc5, initM_f, rv5, evC_seq, evC_region, eo_mov, evG_no, Option.getD_some, ev_mov, av_c, gv_bool, bind1_some', un1_mov, goOp_some, put_q, evOps_nil, kEnd_at, hasG_no, hasG_nil, kEndB_f, kSeq_n, eo_call, P8, DAw, evCl_mk, ev_call, avs_nil, clE_some, callE_pure, lends_nil, callN_some, callP_some, List.nil_append, c2_bool, flat2_bool, backOK_nil, Bool.and_self, clQ_t, eo_not, ev_not, av_t, upd_at, ↓reduceIte, un1_not, Bool.not_true, evC_cond, evC_ret, kSeq_r, kRet_r, retOK_eq, retL_cons, retV_t, retL_nil, consO_some, lkR_one, lk1_bool, lkT_f, applyL_nil, retOK_f, rtO_some, resV_one, leV1_bool, and_true, knowL_nil, askL_nil, evC_skip, Nat.reduceEqDiff, initS_at, List.getD_cons_succ, List.getD_cons_zero, gv_lst, eo_len, ev_len, len_lst, u8s_len, eo_cmp, ev_cmp, gv_int, cmp2_some, cmp_gtr, toR_some', evG_yes, pathG_bool, gG_some, guardR_q, guardL_nil, gv_gd, List.contains_cons, List.contains_nil, Bool.or_false, List.all_cons, beq_self_eq_true, List.all_nil, gvB_true, eo_pick, ev_pick, pick3_some, pickV_bool, Bool.cond_true_left, hasG_yes, kEndB_t, and_self, ungdS_at, ungd_lst, P14, DCo, evCl_ext, avs_cons, evXV_some, evX_f, lends_cons, lend1_lst, lend1_int, consL_some', evXA_some, decU_u8s, Int.reduceLE, Int.reduceToNat, evXN_some, evXP_eq, wfX2_fp, c0_lst, c0_int, frs2_fp, idsOK_eq, List.map_cons, List.map_nil, nodupN_cons, Bool.not_false, nodupN_nil, Nat.reduceLT, decide_true, flatX2_fp, flat0_lst, flat0_int, Bool.and_true, flatL_cells, flatL_nil, evOpsk_at, backX_nil, putX_eq, unfr2_fp, Nat.reduceMul, Nat.reduceAdd, Nat.add_zero, addF_cons, addF_nil, putY_eq, gv_ptr, P15, DPl, Ln.av, evX_t, updM_at, evXC_cells, evXB_some, true_and, evXM_some, evXS_eq, wfX2_tup, wfX1_agg, wfX0_lst, wfX0_bool, wfX0_int, wfX1_lst, frs2_tup, frsV_cons, frs1_agg, frsL_cons, frs0_lst, frs0_bool, frs0_int, frsL_nil, frs1_lst, frsV_nil, flatX2_tup, flatX1_agg, flatX0_lst, flatX0_bool, flatX0_int, Bool.true_and, flatX1_lst, setB_eq, unfr2_tup, unfr1_agg, unfr0_lst, unfr0_bool, unfr0_int, unfr1_lst, gv_tup, eo_extract, ev_extract, un1_extract, List.getElem?_cons_zero, List.getElem?_cons_succ, eo_alloc, ev_alloc, put_n, killB_cells, kill0_nil, kill0_bool, kill0_int, eo_store, ar_t, killS_at, kill3_agg, kill0_lst, kill3_ptr, vwsT_ptr, frzL_nil, goF_eq, Option.getD_none, ev_store, gv_agg, bind2_some', store_ptr, cells_agg, List.length_cons, List.length_nil, Nat.zero_add, killM_at, killO_some, stB_cells, Nat.reduceLeDiff, stC_true, setC_cons, List.set_cons_zero, List.set_cons_succ, setC_nil, put_s, liveB_cells, kill3_lst, evC_draw, preK_some, needD_load, preB_f, needD_mov, needD_call, preB_t, needD_bsliceO, needD_len, preK_nil, evD_cons, ev_load, load_ptr, ldB_cells, valOf_agg, valB_true, List.drop_zero, List.take_succ_cons, List.take_zero, ldV_some, evDk_some, newOK_none, P19, DOd, callE_state, callC_cells, lend1_agg, lendC_cons, lendA_lst, lendA_bool, lendA_int, lendC_nil, aggL_some, callB_some, Ln.eta, callD_t, callS_some, c2_agg, c0_bool, flat2_agg, flat0_bool, clU_t, put_u, ev_bsliceO, List.replicate_succ, List.replicate_zero, fillS_cons, fsK_some, fsC_some, fillS_nil, blO2_some, newOK_some, deadL_nil, killB_buf, liveB_buf, gv_vw, len_vw, lenV_buf, evD_nil, evC_block, evC_loop, I5_0, L5aS, S5a, SL_ge, lkL_cons, lkS_lst, ungd_int, kill3_int, lkS_int, lkS_ptr, lkS_vw_lst, lkL_nil, List.cons_append, lkM_cons, lkB_cells, lkC_cons, lkC0_lst, lkC0_int, lkC_nil, lkM_nil, applyL_frz, frzQ_buf, frzP_t, SL_ge0, leL_cons, frzSl_at, frz3_lst, leV1_lst, frz3_int, leV1_int, frz3_ptr, leV1_ptr, frz3_vw, leL_nil, leM_cons, frzM_at, frzO_some, frzB_cells, frz0_lst, frz0_int, leB_cells, leAs_cons, leA_lst, leA_int, leAs_nil, leM_nil, L5aR, SL_st, lookL_cons, cmp_lss, eo_iaddrS, ev_iaddrS, iaddrS_lst, iasB_true, Int.toNat_natCast, eo_load, gv_ep, load_ep, knowL_cons, true_imp_iff, askL_cons, evC_exit, kSeq_e, kLoop_e, kBlk_e, kBlkB_t, condK_bool, getE_ln4, wrs_len, eo_call_g, P20, DNe, lookM_cons, c2_int, flat2_int, guardR_u, pathB_cons, boolOf_bool, beqO_some, pathB_nil, mergeU_eq1, mgC_cells, mergeL_cons, mergeA_lst, Bool.cond_self, mergeA_int, mergeL_nil, mgU_some, guardU_some, guardL_cons, pathP_cons, pathP_nil, Bool.cond_false_right, eo_arith, ev_arith, arith_sub, ungd_ptr, eo_minmax, ev_minmax, mmO_some, mm_min, mm_nil, K5a.hl, valOf_one, P21, DWr, c2_tup, c1_agg, c1_int, flat2_tup, flat1_agg, flat1_int, P22, P23, DPo, c1_lst, c1_bool, flat1_lst, flat1_bool, kill3_bool, P24, needD_cmp, needD_pick, needD_b2s, needD_not, P25, DVa, P26, cmp_neqB, cmp_neq, ev_b2s, b2s_lst, ByteE_u8s, bytesOf_u8s, imp_self, cmp_neqS, P27, DSa, kBlk_r, kLoop_r, evC_ghost, vws0_lst, P18, DRe, P28, P29, DBr, P30, P16, DGr, P31, kBlk_n, arith_add, kLoop_n, ungd_bool, Bool.false_eq_true, false_imp_iff, knowD_cons, knowD_nil, pairD_cons, pairOK_eq, newMen_none, Nat.reduceBEq, Bool.or_true, pairB_t, pairD_nil, pairB_f, chkR_eq, pslots_gd, optN_some, disjN_cons, disjN_nil, newI_none, pslots_int, pslots_agg, pslots_bool, Bool.and_eq_true, cond_true, getE_wi hT, eo_append, ev_append, gv_nil, appR_nil, ysOf_lst, appK_some, Nat.mul_one, cmp_eql, eo_conv, ev_conv, un1_conv, iaddrS_vw, iasV_buf, iasW_t, vwsT_bp, vws1_int, gv_bp, store_bp, cells_int, stP_buf, stQ_t, getE_u8, u8s_set, kill3_vw, ungd_vw, vws0_vw, frzL_cons, frz0_bool, List.length_set, implies_true, pslots_vw, newI_some, newMen_some, noMen_eq, noB_none, pslots_ptr]
  intro hl0
  intro hlen
  simp only [Bool.or_eq_false_iff, decide_eq_false_iff_not] at hlen
  obtain ⟨hr1, hr2⟩ := hlen
  have h300 : (l.take 300).length ≤ 300 := by rw [List.length_take]; omega
  intro _
  refine ⟨⟨by omega, hT⟩, ?_⟩
  rintro ⟨a, b, W, t⟩ ⟨⟨hA, hB⟩, ⟨hW, hWl⟩, ht⟩
  dsimp only at hA hB hW hWl ht ⊢
  have hA1 := hA.bd
  have hB1 := hB.bd
  have hA2 := hA.P.1
  have hB2 := hB.P.1
  refine ⟨⟨⟨by omega, hT⟩, by omega, by omega⟩, ⟨⟨by omega, odA_nn ht, hT⟩, by omega, by omega⟩, ⟨0, a, b, odL (l.take 300) t a, odL (l.take 300) (odA (l.take 300) t) b, W, odA (l.take 300) (odA (l.take 300) t), by omega, hA.X, hB.X, odL_bd hT t hA, odL_bd hT _ hB, hW, hWl, odA_nn (odA_nn ht)⟩, ⟨⟨rfl, rfl, rfl, rfl⟩, rfl⟩, ?_⟩
  clear hA hB hA1 hB1 hA2 hB2 hW hWl ht
  rintro ⟨i, a, b, c, d, W, t, hi, ha, hb, hc, hd, hW, hl, ht⟩
  dsimp only
  intro hcc
  have hcc := of_decide_eq_true hcc
  have hy := OkX.pk ha hb hc hd i
  generalize pk4 i a b c d = y at hy ⊢
  obtain ⟨⟨hy1, hy2⟩, _⟩ := hy
  refine ⟨⟨by omega, by omega⟩, fun _ => ⟨fun _ => ⟨by omega, ht, hT⟩, fun hx => ?_, fun hx => ?_⟩⟩
  · obtain ⟨hx1, _⟩ := hx
    have hpos := of_decide_eq_true hx1
    have hix := wi_ix (W := W) (t := cnA (l.take 300) t 6) hT hl (by omega)
    have hQ := hW.at (i := (IntKind.i64.wrap (IntKind.i64.wrap ((W.length : Int) - 1) - cnV (l.take 300) (cnA (l.take 300) t 6) (min (W.length : Int) 3))).toNat) (by omega)
    generalize W.getD (IntKind.i64.wrap (IntKind.i64.wrap ((W.length : Int) - 1) - cnV (l.take 300) (cnA (l.take 300) t 6) (min (W.length : Int) 3))).toNat [] = p at hQ ⊢
    obtain ⟨hQ1, hQ2, hQ3⟩ := hQ
    repeat' first
      | exact hT | exact hQ1 | exact okb_setw hQ1 _ _ | exact cn_0 hT _ | exact cn_lt hT _ hQ2 | exact cn_ix hT _ hQ2
      | (refine st5 (by omega) ha hb hc hd hW hl ?_)
      | (apply cnA_nn)
      | exact ht
      | apply And.intro
      | intro _
    all_goals omega
  · repeat' first
      | exact hT | exact hraw | exact cn_0 hT _ | exact cond_nn (cnA_nn ht _) ht
      | (refine st5 (by omega) ha hb hc hd hW hl ?_)
      | (apply cnA_nn)
      | exact ht
      | apply And.intro
      | intro _
    all_goals omega
end Go.Proofs.Ytknapnleecepaaa
