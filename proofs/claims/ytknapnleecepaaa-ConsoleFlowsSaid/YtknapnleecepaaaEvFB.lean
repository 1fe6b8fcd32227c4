/- A part of the proof: symbolic evaluation of the program's functions, proved sound against the model; no condition. -/
import Derived.Test.YtknapnleecepaaaEvFC
namespace Go.Proofs.Ytknapnleecepaaa
open Go Go.RowKit Go.Ev
set_option linter.unusedSimpArgs false
set_option linter.unusedVariables false
set_option maxRecDepth 20000
set_option maxHeartbeats 4000000 in
theorem t6B {Phi : Nat → Option Ctr} (P20 : Phi 20 = some DNe) (P17 : Phi 17 = some DBy) (P21 : Phi 21 = some DWr) (P29 : Phi 29 = some DBr) (P23 : Phi 23 = some DPo) (P18 : Phi 18 = some DRe) (P16 : Phi 16 = some DGr) {L : List Int} (hL : L.length ≤ 200 ∧ Okb L) {q0 q : K6a L} {K : Exit → St → Prop} (hq : q.i < 400) (p : K6c L) (hp : q.i = p.i) : evC Phi (I6 L) c6B (S6c L p).st (kBlk 1 (kSeq (evC Phi (I6 L) c6N) (kLoop (L6a L) q0 q K))) := by
  obtain ⟨a, b, I, O, la, ws, bs, i, t, aw, q', pk, h⟩ := p
  replace hp : q.i = i := hp
  simp (config := {maxSteps := 2000000, contextual := true}) only [c6B, S6c, SL_st, evC_seq, evC_split, evOpsS_cons, evS1_none, pickOf, evS0k_none, eo_mov, evG_no, Option.getD_some, ev_mov, av_t, lookL_cons, Nat.reduceEqDiff, ↓reduceIte, gv_bool, bind1_some', un1_mov, goOp_some, put_q, evOps_nil, evOpsSk_at, upd_at, evS1_some, evSG_bool, gv_ptr, eo_call, P20, DNe, evCl_mk, ev_call, avs_cons, av_c, gv_int, avs_nil, consO_some, clE_some, callE_state, lookM_cons, callC_cells, lends_cons, lend1_int, lends_nil, consL_some', List.nil_append, callB_some, List.all_cons, c0_lst, c0_int, List.all_nil, Bool.and_self, decU_u8s, and_self, u8s_len, true_and, Int.reduceLE, and_true, callD_t, callS_some, c2_int, flat2_int, flat0_lst, flat0_int, Bool.and_true, Bool.true_and, backOK_nil, clU_t, put_u, liveB_cells, eo_cmp, ev_cmp, cmp2_some, cmp_lss, toR_some', evS0k_some, ar_t, pickS_bool, Bool.false_eq_true, evOpsS_nil, kN_at, kSeq_n, evC_cond, evC_region, gv_lst, kEnd_at, hasG_no, hasG_nil, kEndB_f, evC_cut, I6_3, L6dS, S6d, SL_ge, lkL_cons, lkS_ptr, lkS_vw_vw, beq_self_eq_true, renK_t, lkS_int, lkS_lst, lkS_bool, lkL_nil, lkM_cons, updM_at, lkB_cells, lkC_cons, lkC0_lst, Nat.zero_add, lkC0_int, Nat.reduceAdd, lkC_nil, lkC0_bool, lkB_buf, lkM_nil, applyL_nil, SL_ge0, leL_cons, leV1_ptr, leV1_vw, leV1_int, leV1_lst, leV1_bool, leL_nil, leM_cons, leB_cells, leAs_cons, leA_lst, leA_int, leAs_nil, leA_bool, leB_buf, leM_nil, L6dR, knowL_nil, askL_nil, evC_skip, condK_bool, askL_cons, Bool.not_false, Bool.true_eq_false, ar_c, true_imp_iff, false_imp_iff, Bool.not_true, evSG_tup]
  try simp only [iteP, iteF]
  obtain ⟨hs, hf, hm, he, hg⟩ := h
  have hl : L.length ≤ 100000 := by have := hL.1; omega
  have t0 := hs.t0
  have t1 := hs.t1
  refine ⟨fun h1 => ?_, fun h1 => ?_⟩
  · subst h1
    refine ⟨fun h2 => ?_, fun h2 => ?_⟩
    · subst h2
      exact ⟨⟨hl, t0, hL.2⟩, fun _ => ⟨⟨a, b, I, O, q', ws, bs, i, cnA L t 4, false, true, ⟨hs.cn 4, .inr ⟨rfl, hg he.symm⟩, (hm.cn ⟨t0, t1⟩ 4).map fun e => (by cases e), he⟩⟩, ⟨⟨rfl, rfl, rfl, rfl, rfl, rfl⟩, rfl, ⟨rfl, rfl, rfl, rfl, rfl, rfl, rfl, rfl, rfl, rfl⟩, ⟨rfl, rfl, rfl, rfl, rfl, rfl, rfl, rfl, rfl, rfl⟩, rfl, rfl⟩, fun k hk => t6C P20 P17 P21 P29 P23 P18 P16 hL hq k (hp.trans hk)⟩, fun _ => ⟨⟨a, b, I, O, la, ws, bs, i, cnA L t 4, false, true, ⟨hs.cn 4, .inl hf, (hm.cn ⟨t0, t1⟩ 4).map fun e => (by cases e), he⟩⟩, ⟨⟨rfl, rfl, rfl, rfl, rfl, rfl⟩, rfl, ⟨rfl, rfl, rfl, rfl, rfl, rfl, rfl, rfl, rfl, rfl⟩, ⟨rfl, rfl, rfl, rfl, rfl, rfl, rfl, rfl, rfl, rfl⟩, rfl, rfl⟩, fun k hk => t6C P20 P17 P21 P29 P23 P18 P16 hL hq k (hp.trans hk)⟩⟩
    · subst h2
      exact ⟨⟨a, b, I, O, q', ws, bs, i, t, true, true, ⟨hs, .inr ⟨rfl, hg he.symm⟩, hm.map fun _ j hj => ⟨hj, fun _ => hg he.symm⟩, he⟩⟩, ⟨⟨rfl, rfl, rfl, rfl, rfl, rfl⟩, rfl, ⟨rfl, rfl, rfl, rfl, rfl, rfl, rfl, rfl, rfl, rfl⟩, ⟨rfl, rfl, rfl, rfl, rfl, rfl, rfl, rfl, rfl, rfl⟩, rfl, rfl⟩, fun k hk => t6C P20 P17 P21 P29 P23 P18 P16 hL hq k (hp.trans hk)⟩
  · subst h1
    exact ⟨⟨a, b, I, O, la, ws, bs, i, t, aw, false, ⟨hs, .inl hf, hm.map fun _ j hj => ⟨hj, fun e => (by rw [← he] at e; cases e)⟩, he⟩⟩, ⟨⟨rfl, rfl, rfl, rfl, rfl, rfl⟩, rfl, ⟨rfl, rfl, rfl, rfl, rfl, rfl, rfl, rfl, rfl, rfl⟩, ⟨rfl, rfl, rfl, rfl, rfl, rfl, rfl, rfl, rfl, rfl⟩, rfl, rfl⟩, fun k hk => t6C P20 P17 P21 P29 P23 P18 P16 hL hq k (hp.trans hk)⟩
end Go.Proofs.Ytknapnleecepaaa
