/- A part of the proof: symbolic evaluation of the program's functions, proved sound against the model; no condition. -/
import Derived.Test.YtknapnleecepaaaEvFR
namespace Go.Proofs.Ytknapnleecepaaa
open Go Go.RowKit Go.Ev
set_option linter.unusedSimpArgs false
set_option linter.unusedVariables false
set_option maxRecDepth 20000
set_option maxHeartbeats 4000000 in
theorem t6C {Phi : Nat → Option Ctr} (P20 : Phi 20 = some DNe) (P17 : Phi 17 = some DBy) (P21 : Phi 21 = some DWr) (P29 : Phi 29 = some DBr) (P23 : Phi 23 = some DPo) (P18 : Phi 18 = some DRe) (P16 : Phi 16 = some DGr) {L : List Int} (hL : L.length ≤ 200 ∧ Okb L) {q0 q : K6a L} {K : Exit → St → Prop} (hq : q.i < 400) (p : K6d L) (hp : q.i = p.i) : evC Phi (I6 L) c6C (S6d L p).st (kBlk 1 (kSeq (evC Phi (I6 L) c6N) (kLoop (L6a L) q0 q K))) := by
  obtain ⟨a, b, I, O, la, ws, bs, i, t, aw, pk, h⟩ := p
  replace hp : q.i = i := hp
  simp (config := {maxSteps := 2000000, contextual := true}) only [c6C, S6d, SL_st, evC_seq, evC_split, evOpsS_cons, evS1_none, pickOf, evS0k_none, eo_mov, evG_no, Option.getD_some, ev_mov, av_t, lookL_cons, Nat.reduceEqDiff, ↓reduceIte, gv_lst, bind1_some', un1_mov, goOp_some, put_q, evOps_nil, evOpsSk_at, eo_len, ev_len, upd_at, len_lst, u8s_len, eo_cmp, ev_cmp, gv_int, av_c, cmp2_some, cmp_gtr, toR_some', gv_bool, evS1_some, evSG_bool, gv_ptr, eo_call, P20, DNe, evCl_mk, ev_call, avs_cons, avs_nil, consO_some, clE_some, callE_state, lookM_cons, callC_cells, lends_cons, lend1_int, lends_nil, consL_some', List.nil_append, callB_some, List.all_cons, c0_lst, c0_int, List.all_nil, Bool.and_self, decU_u8s, and_self, true_and, Int.reduceLE, and_true, callD_t, callS_some, c2_int, flat2_int, flat0_lst, flat0_int, Bool.and_true, Bool.true_and, backOK_nil, clU_t, put_u, liveB_cells, cmp_eql, evS0k_some, ar_t, pickS_bool, Bool.false_eq_true, evOpsS_nil, kN_at, kSeq_n, evC_cond, evC_cut, I6_9, L6jS, S6j, SL_ge, lkL_cons, lkS_ptr, lkS_vw_vw, beq_self_eq_true, renK_t, lkS_int, lkS_lst, lkS_bool, lkL_nil, lkM_cons, updM_at, lkB_cells, lkC_cons, lkC0_lst, Nat.zero_add, lkC0_int, Nat.reduceAdd, lkC_nil, lkC0_bool, lkB_buf, lkM_nil, applyL_nil, SL_ge0, leL_cons, leV1_ptr, leV1_vw, leV1_int, leV1_lst, leV1_bool, leL_nil, leM_cons, leB_cells, leAs_cons, leA_lst, leA_int, leAs_nil, leA_bool, leB_buf, leM_nil, L6jR, evC_skip, I6_4, L6eS, S6e, L6eR, condK_bool, knowL_nil, askL_nil, askL_cons, Bool.not_false, Bool.true_eq_false, ar_c, true_imp_iff, false_imp_iff, Bool.not_true, evSG_tup, knowL_cons]
  try simp only [iteP, iteF]
  obtain ⟨hs, hf, hm, he⟩ := h
  have hl : L.length ≤ 100000 := by have := hL.1; omega
  have t0 := hs.t0
  have t1 := hs.t1
  intro _
  refine ⟨fun h1 => ?_, fun h1 => ?_⟩
  · have hn : la ≠ [] := fun e => by rw [e] at h1; exact absurd h1 (by decide)
    refine ⟨fun h2 => ?_, fun h2 => ?_⟩
    · subst h2
      have hf : LA b la := hf.elim id fun e => (by cases e.1)
      exact ⟨⟨hl, t0, hL.2⟩, fun _ => ⟨⟨a, b, I, O, la, ws, bs, i, cnA L t 4, aw, ⟨hs.cn 4, .inl hf, hm.cn ⟨t0, t1⟩ 4, hn⟩⟩, ⟨⟨rfl, rfl, rfl, rfl, rfl⟩, rfl, ⟨rfl, rfl, rfl, rfl, rfl, rfl, rfl, rfl, rfl, rfl⟩, ⟨rfl, rfl, rfl, rfl, rfl, rfl, rfl, rfl, rfl, rfl⟩, rfl, rfl⟩, fun k hk => t6R P20 P17 P21 P29 P23 P18 P16 hL hq k (hp.trans hk)⟩, fun _ => ⟨⟨a, b, I, O, la, ws, bs, i, cnA L t 4, aw, ⟨hs.cn 4, hf, (hm.cn ⟨t0, t1⟩ 4).map fun _ j hj => hj.no he.symm⟩⟩, ⟨⟨rfl, rfl, rfl, rfl, rfl⟩, rfl, ⟨rfl, rfl, rfl, rfl, rfl, rfl, rfl, rfl, rfl, rfl⟩, ⟨rfl, rfl, rfl, rfl, rfl, rfl, rfl, rfl, rfl, rfl⟩, rfl, rfl⟩, fun k hk => t6D P20 P17 P21 P29 P23 P18 P16 hL hq k (hp.trans hk)⟩⟩
    · subst h2
      exact ⟨⟨a, b, I, O, la, ws, bs, i, t, aw, ⟨hs, hf.imp id fun e => ⟨he.symm, e.2⟩, hm, hn⟩⟩, ⟨⟨rfl, rfl, rfl, rfl, rfl⟩, rfl, ⟨rfl, rfl, rfl, rfl, rfl, rfl, rfl, rfl, rfl, rfl⟩, ⟨rfl, rfl, rfl, rfl, rfl, rfl, rfl, rfl, rfl, rfl⟩, rfl, rfl⟩, fun k hk => t6R P20 P17 P21 P29 P23 P18 P16 hL hq k (hp.trans hk)⟩
  · have hn : la = [] := by
      have h1 := of_decide_eq_false h1
      exact List.length_eq_zero_iff.1 (by omega)
    subst hn
    have hb : ∀ j, QC a b [] j → a.bu = false := fun j hj => by
      cases hb : a.bu with
      | false => rfl
      | true => exact absurd (hj.2 hb).symm (pka_ne hs hb)
    exact ⟨⟨a, b, I, O, [], ws, bs, i, t, aw, ⟨hs, .inl rfl, hm.map fun _ j hj => hj.no (hb j hj)⟩⟩, ⟨⟨rfl, rfl, rfl, rfl, rfl⟩, rfl, ⟨rfl, rfl, rfl, rfl, rfl, rfl, rfl, rfl, rfl, rfl⟩, ⟨rfl, rfl, rfl, rfl, rfl, rfl, rfl, rfl, rfl, rfl⟩, rfl, rfl⟩, fun k hk => t6D P20 P17 P21 P29 P23 P18 P16 hL hq k (hp.trans hk)⟩
end Go.Proofs.Ytknapnleecepaaa
