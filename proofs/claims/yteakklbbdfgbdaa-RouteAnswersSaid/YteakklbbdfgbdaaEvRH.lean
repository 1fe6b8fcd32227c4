/- A part of the proof: symbolic evaluation of the program's functions, proved sound against the model; no condition. -/
import Derived.Test.YteakklbbdfgbdaaEvRD
namespace Go.Proofs.Yteakklbbdfgbdaa
open Go Go.RowKit Go.Ev
set_option linter.unusedSimpArgs false
set_option linter.unusedVariables false
set_option maxRecDepth 20000
set_option maxHeartbeats 4000000 in
theorem walk15 {Phi : Nat → Option Ctr} (P17 : Phi 17 = some CVl) (P28 : Phi 28 = some CFr) (m : Nt) (a b : Int) : evC Phi (noI) rc15 ⟨initS [m.av, .int .i64 a, .int .i64 b], initM false []⟩ (kRet rv15 (.tup [.int .i64 (dsV m a b), .int .i64 (dsE m a b)]) false []) := by
  simp (config := {maxSteps := 2000000, contextual := true}) only [rc15, Nt.av, initM_f, rv15, evC_seq, evC_region, eo_box, evG_no, Option.getD_some, ev_box, av_t, initS_at, List.getD_cons_zero, gv_agg, bind1_some', boxR_eq, cells_agg, List.length_cons, List.length_nil, Nat.zero_add, Nat.reduceAdd, ↓reduceIte, bxO_some, Nat.reduceMul, goOp_some, put_n, killB_cells, List.map_cons, kill0_int, kill0_lst, List.map_nil, eo_mov, ev_mov, av_c, gv_int, un1_mov, put_q, evOps_nil, kEnd_at, hasG_no, hasG_nil, kEndB_f, kSeq_n, eo_load, ev_load, upd_at, Nat.reduceEqDiff, gv_ptr, load_ptr, updM_at, ldB_cells, valOf_agg, Nat.reduceLeDiff, decide_true, valB_true, List.drop_zero, List.take_succ_cons, List.take_zero, ldV_some, eo_call, P17, CVl, evCl_mk, ev_call, avs_cons, avs_nil, consO_some, clE_some, callE_pure, lends_cons, lend1_agg, lendC_cons, lendA_int, lendA_lst, lendC_nil, consL_some', List.nil_append, aggL_some, lends_nil, callN_some, decBr_brs, and_self, decEp_eps, Nt.eta, callP_some, c2_int, flat2_int, backOK_nil, Bool.and_self, clQ_t, eo_cmp, ev_cmp, cmp2_some, cmp_neq, toR_some', evC_cond, evC_ret, kSeq_r, kRet_r, retOK_eq, retL_cons, retV_t, retL_nil, lkR_two, lkVs_cons, lk1_int, lkVs_nil, lkT_f, applyL_nil, retOK_f, rtO_some, resV_two, leVs_cons, leV1_int, leVs_nil, and_true, knowL_nil, askL_nil, evC_skip, killS_at, List.getD_cons_succ, kill3_int, cmp_lss, gv_bool, evG_yes, pathG_bool, gG_some, guardR_q, guardL_nil, eo_faddr, ev_faddr, faddr_ptr, Nat.add_zero, gv_gd, List.contains_cons, List.contains_nil, Bool.or_false, List.all_cons, beq_self_eq_true, List.all_nil, gvB_true, valOf_one, List.getElem?_cons_zero, cmp_geq, eo_pick, ev_pick, pick3_some, pickV_bool, Bool.cond_true_left, hasG_yes, kEndB_t, ungdS_at, ungd_ptr, ungd_int, P28, CFr, lend1_int, brs_len, true_and, c2_lst, flat2_lst, eo_iaddrS, ev_iaddrS, gv_lst, bind2_some', iaddrS_lst, iasB_true, i64s_len, gv_ep, load_ep, getE_i64, evC_block, kBlk_r, cmp_gtr, kBlk_n, ar_t, condK_bool, knowL_cons, askL_cons, ungd_bool]
  refine ⟨fun h => ?_, fun h => ⟨fun h1 => ?_, fun h1 => ?_⟩⟩
  · have h : vl m ≠ 0 := by simpa using h
    have e : dsE m a b = vl m := if_pos h
    rw [dsV, e, if_neg h]; exact ⟨rfl, rfl⟩
  all_goals have h : vl m = 0 := by simpa using h
  · have h1 : a < 0 ∨ m.N ≤ a ∨ b < 0 ∨ m.N ≤ b := by simp only [Bool.or_eq_true, decide_eq_true_eq] at h1; omega
    have e : dsE m a b = 2 := by rw [dsE, if_neg (by rw [h]; simp), if_pos h1]
    rw [dsV, e, if_neg (by decide)]; exact ⟨rfl, rfl⟩
  have n1 : ¬ (a < 0 ∨ m.N ≤ a ∨ b < 0 ∨ m.N ≤ b) := by simp only [Bool.or_eq_false_iff, decide_eq_false_iff_not] at h1; omega
  have O := vl_ok h
  have oN := O.N
  have ob := O.b
  have ha : In m.N.toNat a := ⟨by omega, by omega⟩
  have hb : In m.N.toNat b := ⟨by omega, by omega⟩
  have e : dsE m a b = far (nat (ds m.N.toNat m.bs a) b) := by rw [dsE, if_neg (by rw [h]; simp), if_neg n1]
  have V : dsV m a b = if dsE m a b = 0 then nat (ds m.N.toNat m.bs a) b else 0 := rfl
  have hl := ds_len O.v ha
  refine ⟨⟨by omega, O.v, by omega, ha⟩, ⟨hb.1, by rw [hl]; exact hb.2⟩, fun _ => ⟨fun h2 => ?_, fun h2 => ⟨fun h3 => ?_, fun h3 => ?_⟩⟩⟩
  · have h2 : nat (ds m.N.toNat m.bs a) b < 0 := of_decide_eq_true h2
    have f : far (nat (ds m.N.toNat m.bs a) b) = 8 := if_pos h2
    rw [V, e, f, if_neg (by decide)]; exact ⟨rfl, rfl⟩
  · have h2 : ¬ nat (ds m.N.toNat m.bs a) b < 0 := of_decide_eq_false h2
    have h3 : 7 < nat (ds m.N.toNat m.bs a) b := of_decide_eq_true h3
    have f : far (nat (ds m.N.toNat m.bs a) b) = 40 := by rw [far, if_neg h2, if_pos h3]
    rw [V, e, f, if_neg (by decide)]; exact ⟨rfl, rfl⟩
  · have h2 : ¬ nat (ds m.N.toNat m.bs a) b < 0 := of_decide_eq_false h2
    have h3 : ¬ 7 < nat (ds m.N.toNat m.bs a) b := of_decide_eq_false h3
    have f : far (nat (ds m.N.toNat m.bs a) b) = 0 := by rw [far, if_neg h2, if_neg h3]
    rw [V, e, f, if_pos rfl]; exact ⟨rfl, rfl⟩
set_option maxHeartbeats 4000000 in
theorem walk14 {Phi : Nat → Option Ctr} (P16 : Phi 16 = some CVl) (P26 : Phi 26 = some CFr) (P27 : Phi 27 = some CFa) (m : Nt) (a b : Int) : evC Phi (noI) rc14 ⟨initS [m.av, .int .i64 a, .int .i64 b], initM false []⟩ (kRet rv14 (.tup [.int .i64 (dsV m a b), .int .i64 (dsE m a b)]) false []) := by
  simp (config := {maxSteps := 2000000, contextual := true}) only [rc14, Nt.av, initM_f, rv14, evC_seq, evC_region, eo_box, evG_no, Option.getD_some, ev_box, av_t, initS_at, List.getD_cons_zero, gv_agg, bind1_some', boxR_eq, cells_agg, List.length_cons, List.length_nil, Nat.zero_add, Nat.reduceAdd, ↓reduceIte, bxO_some, Nat.reduceMul, goOp_some, put_n, killB_cells, List.map_cons, kill0_int, kill0_lst, List.map_nil, eo_mov, ev_mov, av_c, gv_int, un1_mov, put_q, evOps_nil, kEnd_at, hasG_no, hasG_nil, kEndB_f, kSeq_n, eo_load, ev_load, upd_at, Nat.reduceEqDiff, gv_ptr, load_ptr, updM_at, ldB_cells, valOf_agg, Nat.reduceLeDiff, decide_true, valB_true, List.drop_zero, List.take_succ_cons, List.take_zero, ldV_some, eo_call, P16, CVl, evCl_mk, ev_call, avs_cons, avs_nil, consO_some, clE_some, callE_pure, lends_cons, lend1_agg, lendC_cons, lendA_int, lendA_lst, lendC_nil, consL_some', List.nil_append, aggL_some, lends_nil, callN_some, decBr_brs, and_self, decEp_eps, Nt.eta, callP_some, c2_int, flat2_int, backOK_nil, Bool.and_self, clQ_t, eo_cmp, ev_cmp, cmp2_some, cmp_neq, toR_some', evC_cond, evC_ret, kSeq_r, kRet_r, retOK_eq, retL_cons, retV_t, retL_nil, lkR_two, lkVs_cons, lk1_int, lkVs_nil, lkT_f, applyL_nil, retOK_f, rtO_some, resV_two, leVs_cons, leV1_int, leVs_nil, and_true, knowL_nil, askL_nil, evC_skip, killS_at, List.getD_cons_succ, kill3_int, cmp_lss, gv_bool, evG_yes, pathG_bool, gG_some, guardR_q, guardL_nil, eo_faddr, ev_faddr, faddr_ptr, Nat.add_zero, gv_gd, List.contains_cons, List.contains_nil, Bool.or_false, List.all_cons, beq_self_eq_true, List.all_nil, gvB_true, valOf_one, List.getElem?_cons_zero, cmp_geq, eo_pick, ev_pick, pick3_some, pickV_bool, Bool.cond_true_left, hasG_yes, kEndB_t, ungdS_at, ungd_ptr, ungd_int, P26, CFr, lend1_int, brs_len, true_and, c2_lst, flat2_lst, eo_iaddrS, ev_iaddrS, gv_lst, bind2_some', iaddrS_lst, iasB_true, i64s_len, gv_ep, load_ep, getE_i64, P27, CFa, ar_t, condK_bool, askL_cons, knowL_cons, ungd_bool]
  refine ⟨fun h => ?_, fun h => ⟨fun h1 => ?_, fun h1 => ?_⟩⟩
  · have h : vl m ≠ 0 := by simpa using h
    have e : dsE m a b = vl m := if_pos h
    rw [dsV, e, if_neg h]; exact ⟨rfl, rfl⟩
  all_goals have h : vl m = 0 := by simpa using h
  · have h1 : a < 0 ∨ m.N ≤ a ∨ b < 0 ∨ m.N ≤ b := by simp only [Bool.or_eq_true, decide_eq_true_eq] at h1; omega
    have e : dsE m a b = 2 := by rw [dsE, if_neg (by rw [h]; simp), if_pos h1]
    rw [dsV, e, if_neg (by decide)]; exact ⟨rfl, rfl⟩
  have n1 : ¬ (a < 0 ∨ m.N ≤ a ∨ b < 0 ∨ m.N ≤ b) := by simp only [Bool.or_eq_false_iff, decide_eq_false_iff_not] at h1; omega
  have O := vl_ok h
  have oN := O.N
  have ob := O.b
  have ha : In m.N.toNat a := ⟨by omega, by omega⟩
  have hb : In m.N.toNat b := ⟨by omega, by omega⟩
  have e : dsE m a b = far (nat (ds m.N.toNat m.bs a) b) := by rw [dsE, if_neg (by rw [h]; simp), if_neg n1]
  have V : dsV m a b = if dsE m a b = 0 then nat (ds m.N.toNat m.bs a) b else 0 := rfl
  have hl := ds_len O.v hb
  rw [ds_symm O.v ha hb] at e V
  refine ⟨⟨by omega, O.v, by omega, hb⟩, ⟨ha.1, by rw [hl]; exact ha.2⟩, fun _ => ⟨fun h2 => ?_, fun h2 => ?_⟩⟩
  · have h2 : far (nat (ds m.N.toNat m.bs b) a) ≠ 0 := fun e => by
      have h2 : (!decide (far (nat (ds m.N.toNat m.bs b) a) = 0)) = true := h2
      rw [e] at h2; exact absurd h2 (by decide)
    rw [V, e, if_neg h2]; exact ⟨rfl, rfl⟩
  · have h2 : (!decide (far (nat (ds m.N.toNat m.bs b) a) = 0)) = false := h2
    have h2 : far (nat (ds m.N.toNat m.bs b) a) = 0 := of_decide_eq_true (by rw [Bool.not_eq_false'] at h2; exact h2)
    rw [V, e, h2, if_pos rfl]; exact ⟨rfl, rfl⟩
end Go.Proofs.Yteakklbbdfgbdaa
