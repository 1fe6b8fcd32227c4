/- A part of the proof: symbolic evaluation of the program's functions, proved sound against the model; no condition. -/
import Derived.Test.YtknapnleecepaaaEvFE
namespace Go.Proofs.Ytknapnleecepaaa
open Go Go.RowKit Go.Ev
set_option linter.unusedSimpArgs false
set_option linter.unusedVariables false
set_option maxRecDepth 20000
set_option maxHeartbeats 4000000 in
theorem t6D {Phi : Nat → Option Ctr} (P20 : Phi 20 = some DNe) (P17 : Phi 17 = some DBy) (P21 : Phi 21 = some DWr) (P29 : Phi 29 = some DBr) (P23 : Phi 23 = some DPo) (P18 : Phi 18 = some DRe) (P16 : Phi 16 = some DGr) {L : List Int} (hL : L.length ≤ 200 ∧ Okb L) {q0 q : K6a L} {K : Exit → St → Prop} (hq : q.i < 400) (p : K6e L) (hp : q.i = p.i) : evC Phi (I6 L) c6D (S6e L p).st (kBlk 1 (kSeq (evC Phi (I6 L) c6N) (kLoop (L6a L) q0 q K))) := by
  obtain ⟨a, b, I, O, la, ws, bs, i, t, aw, h⟩ := p
  replace hp : q.i = i := hp
  simp (config := {maxSteps := 2000000, contextual := true}) only [c6D, S6e, SL_st, evC_seq, evC_region, eo_mov, evG_no, Option.getD_some, ev_mov, av_t, lookL_cons, Nat.reduceEqDiff, ↓reduceIte, gv_bool, bind1_some', un1_mov, goOp_some, put_q, evOps_nil, kEnd_at, hasG_no, hasG_nil, kEndB_f, kSeq_n, evC_cond, eo_load, ev_load, upd_at, gv_ptr, load_ptr, lookM_cons, ldB_cells, valOf_agg, Nat.zero_add, List.length_cons, List.length_nil, Nat.reduceAdd, Nat.reduceLeDiff, decide_true, valB_true, List.drop_zero, List.take_succ_cons, List.take_zero, ldV_some, eo_call, P16, DGr, Ln.av, evCl_mk, ev_call, avs_cons, gv_agg, av_c, gv_int, avs_nil, consO_some, clE_some, callE_pure, lends_cons, lend1_agg, lendC_cons, lendA_lst, lendA_bool, lendA_int, lendC_nil, consL_some', List.nil_append, aggL_some, lend1_int, lends_nil, callN_some, decU_u8s, and_self, u8s_len, true_and, Ln.eta, callP_some, c2_agg, List.all_cons, c0_lst, c0_bool, c0_int, List.all_nil, Bool.and_self, flat2_agg, flat0_lst, flat0_bool, flat0_int, Bool.and_true, Bool.true_and, backOK_nil, clQ_t, eo_store, ar_t, vwsT_ptr, frzL_nil, goF_eq, Option.getD_none, ev_store, bind2_some', store_ptr, cells_agg, stB_cells, stC_true, setC_cons, List.set_cons_zero, List.set_cons_succ, setC_nil, put_s, liveB_cells, evC_cut, I6_5, L6fS, S6f, SL_ge, lkL_cons, lkS_ptr, lkS_vw_vw, beq_self_eq_true, renK_t, lkS_int, lkS_lst, lkS_bool, lkL_nil, lkM_cons, updM_at, lkB_cells, lkC_cons, lkC0_lst, lkC0_int, lkC_nil, lkC0_bool, lkB_buf, lkM_nil, applyL_nil, SL_ge0, leL_cons, leV1_ptr, leV1_vw, leV1_int, leV1_lst, leV1_bool, leL_nil, and_true, leM_cons, leB_cells, leAs_cons, leA_lst, leA_int, leAs_nil, leA_bool, leB_buf, leM_nil, L6fR, knowL_nil, askL_nil, askL_cons, evC_skip, condK_bool]
  try simp only [iteP, iteF]
  obtain ⟨hs, hf, hm⟩ := h
  obtain ⟨g1, g2, g3⟩ := hs.gr
  refine ⟨fun h1 => ?_, fun h1 => ?_⟩
  · subst h1
    exact ⟨hs.hb.bd, ⟨a, grL b 10, I, O, la, ws, bs, i, t, true, ⟨g1, hf.rc g2, hm.map fun _ => g3⟩⟩, ⟨⟨rfl, rfl, rfl, rfl, rfl⟩, rfl, ⟨rfl, rfl, rfl, rfl, rfl, rfl, rfl, rfl, rfl, rfl⟩, ⟨rfl, rfl, rfl, rfl, rfl, rfl, rfl, rfl, rfl, rfl⟩, rfl, rfl⟩, fun k hk => t6E P20 P17 P21 P29 P23 P18 P16 hL hq k (hp.trans hk)⟩
  · subst h1
    exact ⟨⟨a, b, I, O, la, ws, bs, i, t, false, ⟨hs, hf, hm.map fun e => (by cases e)⟩⟩, ⟨⟨rfl, rfl, rfl, rfl, rfl⟩, rfl, ⟨rfl, rfl, rfl, rfl, rfl, rfl, rfl, rfl, rfl, rfl⟩, ⟨rfl, rfl, rfl, rfl, rfl, rfl, rfl, rfl, rfl, rfl⟩, rfl, rfl⟩, fun k hk => t6E P20 P17 P21 P29 P23 P18 P16 hL hq k (hp.trans hk)⟩
end Go.Proofs.Ytknapnleecepaaa
