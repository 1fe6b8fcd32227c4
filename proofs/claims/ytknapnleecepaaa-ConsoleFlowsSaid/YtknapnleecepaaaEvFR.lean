/- A part of the proof: symbolic evaluation of the program's functions, proved sound against the model; no condition. -/
import Derived.Test.YtknapnleecepaaaEvFD
namespace Go.Proofs.Ytknapnleecepaaa
open Go Go.RowKit Go.Ev
set_option linter.unusedSimpArgs false
set_option linter.unusedVariables false
set_option maxRecDepth 20000
set_option maxHeartbeats 4000000 in
theorem t6R {Phi : Nat → Option Ctr} (P20 : Phi 20 = some DNe) (P17 : Phi 17 = some DBy) (P21 : Phi 21 = some DWr) (P29 : Phi 29 = some DBr) (P23 : Phi 23 = some DPo) (P18 : Phi 18 = some DRe) (P16 : Phi 16 = some DGr) {L : List Int} (hL : L.length ≤ 200 ∧ Okb L) {q0 q : K6a L} {K : Exit → St → Prop} (hq : q.i < 400) (p : K6j L) (hp : q.i = p.i) : evC Phi (I6 L) c6R (S6j L p).st (kSeq (evC Phi (I6 L) (.cut 4 c6D)) (kBlk 1 (kSeq (evC Phi (I6 L) c6N) (kLoop (L6a L) q0 q K)))) := by
  obtain ⟨a, b, I, O, la, ws, bs, i, t, aw, h⟩ := p
  replace hp : q.i = i := hp
  simp (config := {maxSteps := 2000000, contextual := true}) only [c6R, S6j, SL_st, evC_seq, evC_region, eo_load, evG_no, Option.getD_some, ev_load, av_t, lookL_cons, Nat.reduceEqDiff, ↓reduceIte, gv_ptr, bind1_some', load_ptr, lookM_cons, ldB_cells, valOf_agg, Nat.zero_add, List.length_cons, List.length_nil, Nat.reduceAdd, Nat.reduceLeDiff, decide_true, valB_true, List.drop_zero, List.take_succ_cons, List.take_zero, ldV_some, goOp_some, put_q, eo_mov, ev_mov, upd_at, gv_lst, un1_mov, eo_call, P18, DRe, Ln.av, evCl_mk, ev_call, avs_cons, gv_agg, avs_nil, consO_some, clE_some, callE_pure, lends_cons, lend1_agg, lendC_cons, lendA_lst, lendA_bool, lendA_int, lendC_nil, consL_some', List.nil_append, aggL_some, lend1_lst, lends_nil, callN_some, decU_u8s, and_self, u8s_len, true_and, Ln.eta, callP_some, c2_tup, List.all_cons, c1_agg, c0_lst, c0_bool, c0_int, List.all_nil, Bool.and_self, c1_lst, c1_bool, c1_int, flat2_tup, flat1_agg, flat0_lst, flat0_bool, flat0_int, Bool.and_true, Bool.true_and, flat1_lst, flat1_bool, flat1_int, backOK_nil, clQ_t, gv_tup, eo_extract, ev_extract, un1_extract, List.getElem?_cons_zero, toR_some', List.getElem?_cons_succ, eo_alloc, ev_alloc, Nat.reduceMul, put_n, killB_cells, List.map_cons, kill0_nil, kill0_bool, kill0_int, List.map_nil, eo_store, ar_t, killS_at, kill3_agg, kill0_lst, vwsT_ptr, frzL_nil, goF_eq, Option.getD_none, ev_store, bind2_some', store_ptr, cells_agg, updM_at, stB_cells, stC_true, setC_cons, List.set_cons_zero, List.set_cons_succ, setC_nil, put_s, liveB_cells, kill3_lst, kill3_bool, gv_bool, kill3_int, gv_int, evOps_nil, kEnd_at, hasG_no, hasG_nil, kEndB_f, kSeq_n, eo_cmp, ev_cmp, av_c, cmp2_some, cmp_neq, evC_cond, evC_ret, kSeq_r, kBlk_r, kLoop_r, knowL_nil, askL_nil, evC_skip, eo_len, ev_len, len_lst, P16, DGr, lend1_int, c2_agg, flat2_agg, kill3_vw, gv_vw, eo_append, ev_append, appR_vw, ysOf_lst, killM_at, killO_some, killB_buf, appV_buf, appK_some, Nat.mul_one, u8s_join, List.cons_append, kill3_ptr, eo_arith, ev_arith, arith_add, evC_cut, I6_4, L6eS, S6e, SL_ge, lkL_cons, lkS_ptr, lkS_vw_vw, beq_self_eq_true, renK_t, lkS_int, lkS_lst, lkS_bool, lkL_nil, lkM_cons, lkB_cells, lkC_cons, lkC0_lst, lkC0_int, lkC_nil, lkC0_bool, lkB_buf, lkM_nil, applyL_nil, SL_ge0, leL_cons, leV1_ptr, leV1_vw, leV1_int, leV1_lst, leV1_bool, leL_nil, and_true, leM_cons, leB_cells, leAs_cons, leA_lst, leA_int, leAs_nil, leA_bool, leB_buf, leM_nil, L6eR, condK_bool, askL_cons, knowL_cons]
  try simp only [iteP, iteF]
  obtain ⟨hs, hf, hm, hn⟩ := h
  have hl : L.length ≤ 100000 := by have := hL.1; omega
  have t0 := hs.t0
  have t1 := hs.t1
  obtain ⟨⟨r1, r2, r3⟩, b', e, s1, f1, q1⟩ := hs.rv hf hn
  have hi := congrArg List.length s1.io
  have hI := s1.nI
  have hk := s1.k1
  have hw := s1.kw
  have hL1 := hL.1
  simp only [List.length_append] at hi
  rw [e]
  refine ⟨⟨hs.hb.bd, by omega, r2⟩, fun hc => ?_, fun _ _ => ⟨(hs.hb.re la).bd, by omega, by omega, fun h1 => ?_, fun h1 => ?_⟩⟩
  · rw [r1] at hc; exact absurd hc (by decide)
  · rw [h1] at s1 hk
    have hk : bs + 1 + _ + _ ≤ ws := hk
    exact ⟨⟨a, b', I, O ++ reD b la, la, ws, bs + 1, i, t, aw, ⟨s1, f1, hm.map fun _ => q1⟩⟩, ⟨⟨rfl, AV.int_inj' (wr_succ bs (by omega)), rfl, rfl, rfl⟩, rfl, ⟨rfl, rfl, rfl, rfl, rfl, rfl, rfl, rfl, rfl, rfl⟩, ⟨rfl, rfl, rfl, rfl, rfl, rfl, rfl, rfl, rfl, rfl⟩, rfl, rfl⟩, fun k hk => t6D P20 P17 P21 P29 P23 P18 P16 hL hq k (hp.trans hk)⟩
  · rw [h1] at s1
    exact ⟨⟨a, b', I, O ++ reD b la, la, ws, bs, i, t, aw, ⟨s1, f1, hm.map fun _ => q1⟩⟩, ⟨⟨rfl, rfl, rfl, rfl, rfl⟩, rfl, ⟨rfl, rfl, rfl, rfl, rfl, rfl, rfl, rfl, rfl, rfl⟩, ⟨rfl, rfl, rfl, rfl, rfl, rfl, rfl, rfl, rfl, rfl⟩, rfl, rfl⟩, fun k hk => t6D P20 P17 P21 P29 P23 P18 P16 hL hq k (hp.trans hk)⟩
end Go.Proofs.Ytknapnleecepaaa
