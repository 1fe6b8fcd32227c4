/- A part of the proof: symbolic evaluation of the program's functions, proved sound against the model; no condition. -/
import Derived.Test.YtknapnleecepaaaEvFA
namespace Go.Proofs.Ytknapnleecepaaa
open Go Go.RowKit Go.Ev
set_option linter.unusedSimpArgs false
set_option linter.unusedVariables false
set_option maxRecDepth 20000
set_option maxHeartbeats 4000000 in
theorem t6G {Phi : Nat → Option Ctr} (P20 : Phi 20 = some DNe) (P17 : Phi 17 = some DBy) (P21 : Phi 21 = some DWr) (P29 : Phi 29 = some DBr) (P23 : Phi 23 = some DPo) (P18 : Phi 18 = some DRe) (P16 : Phi 16 = some DGr) {L : List Int} (hL : L.length ≤ 200 ∧ Okb L) {q0 q : K6a L} {K : Exit → St → Prop} (hq : q.i < 400) (p : K6h L) (hp : q.i = p.i) : evC Phi (I6 L) c6G (S6h L p).st (kBlk 1 (kSeq (evC Phi (I6 L) c6N) (kLoop (L6a L) q0 q K))) := by
  obtain ⟨a, b, I, O, la, ws, bs, i, t, aw, h⟩ := p
  replace hp : q.i = i := hp
  simp (config := {maxSteps := 2000000, contextual := true}) only [c6G, S6h, SL_st, c6N, evC_seq, evC_draw, preK_some, needD_mov, preB_f, needD_len, needD_cmp, needD_b2s, needD_slice, needD_pick, preK_nil, evD_cons, evG_no, Option.getD_some, ev_mov, av_t, lookL_cons, Nat.reduceEqDiff, ↓reduceIte, gv_vw, bind1_some', un1_mov, evDk_some, newOK_none, Nat.zero_add, put_q, ev_len, upd_at, len_vw, lookM_cons, lenV_buf, u8s_len, Nat.reduceAdd, ev_cmp, gv_int, cmp2_some, cmp_gtr, toR_some', gv_bool, evG_yes, pathG_bool, gG_some, guardR_q, guardL_nil, ev_b2s, gv_gd, List.contains_cons, List.contains_nil, Bool.or_false, List.all_cons, beq_self_eq_true, List.all_nil, Bool.and_self, gvB_true, b2s_vw, b2sB_buf, ByteE_u8s, bytesOf_u8s, guardL_cons, pathP_cons, boolOf_bool, pathP_nil, and_true, implies_true, ev_slice, boundA_none, boundA_some, optS_some, sliceO_some, slice_vw, slB_buf, loOf_none, hiOf_int, List.length_cons, List.length_nil, slV_some, Int.reduceLE, true_and, Int.reduceToNat, Int.toNat_natCast, b2s_sv, b2sP_buf, List.drop_zero, u8s_take, cmp_neqS, ev_pick, List.nil_append, av_c, pick3_some, pickV_bool, Bool.cond_true_left, evD_nil, kEnd_at, hasG_no, hasG_yes, kEndB_t, kSeq_n, evC_cond, evC_region, eo_mov, goOp_some, evOps_nil, hasG_nil, kEndB_f, evC_ret, kBlk_r, kSeq_r, kLoop_r, knowL_nil, askL_nil, evC_skip, kBlk_n, ungdS_at, ungd_int, eo_arith, ev_arith, bind2_some', arith_add, kLoop_n, S6a, SL_ge, lkL_cons, ungd_ptr, lkS_ptr, ungd_vw, lkS_vw_vw, renK_t, lkS_int, ungd_lst, lkS_lst, lkL_nil, lkM_cons, lkB_cells, lkC_cons, lkC0_lst, lkC0_int, lkC_nil, lkC0_bool, lkB_buf, lkM_nil, applyL_nil, SL_ge0, leL_cons, leV1_ptr, leV1_vw, leV1_int, leV1_lst, leL_nil, leM_cons, leB_cells, leAs_cons, leA_lst, leA_int, leAs_nil, leA_bool, leB_buf, leM_nil, ar_t, ungd_bool, condK_bool, knowD_cons, knowD_nil, knowL_cons, pairD_cons, pairOK_eq, newMen_none, Nat.reduceBEq, Bool.or_true, pairB_t, and_self, pairD_nil, pairB_f, chkR_eq, pslots_gd, List.map_cons, List.map_nil, optN_some, disjN_cons, Bool.not_false, disjN_nil, newI_none, List.cons_append, askL_cons, pslots_int, pslots_vw]
  try simp only [iteP, iteF]
  obtain ⟨hs, hf, hm⟩ := id h
  obtain ⟨k1, k2, k3⟩ := hs.ck
  rw [Nat.sub_zero, k2]
  refine ⟨fun _ => ⟨by omega, by omega⟩, fun _ _ => ⟨fun hc => ?_, fun _ => ⟨⟨a, b, I, O, la, ws, bs, i + 1, t, h.nx hL.1⟩, ⟨⟨rfl, rfl, rfl, AV.int_inj' (wr_succ i (by omega))⟩, rfl, ⟨rfl, rfl, rfl, rfl, rfl, rfl, rfl, rfl, rfl, rfl⟩, ⟨rfl, rfl, rfl, rfl, rfl, rfl, rfl, rfl, rfl, rfl⟩, rfl, rfl⟩, by show 400 - (i + 1) < 400 - q.i; omega⟩⟩⟩
  have e1 : ¬ ((I.length : Int) < (O.length : Int)) := by omega
  have e3 : ¬ ((ws : Int) < (bs : Int)) := by omega
  rw [decide_eq_false e1, decide_eq_false e3, decide_eq_true (Eq.refl (b8 O))] at hc
  exact absurd hc (by decide)
end Go.Proofs.Ytknapnleecepaaa
