/- A part of the proof: symbolic evaluation of the program's functions, proved sound against the model; no condition. -/
import Derived.Test.YtfmndopgbikgjaaEvGE
namespace Go.Proofs.Ytfmndopgbikgjaa
open Go Go.RowKit Go.Ev
set_option linter.unusedSimpArgs false
set_option linter.unusedVariables false
set_option maxRecDepth 20000
structure K8a (X : List Int) where
  i : Nat
  b : List Int
  hi : i ≤ X.length
  hb : b.length ≤ i
  hx : ∀ c ∈ b, c ≠ 126 ∧ c ≠ 27 ∧ 0 ≤ c ∧ c ≤ 255
def S8a (X : List Int) (p : K8a X) : SL := ⟨[(3, .vw 3200 0 0 0), (15, .lst [.int .u8 0] (u8s X)), (16, .int .i64 X.length), (17, .int .i64 p.i)], [(3200, .buf 5 [.int .u8 0] (u8s p.b))]⟩
abbrev L8a (X : List Int) : LI := ⟨K8a X, S8a X, fun p => X.length - p.i, fun p q => True⟩
theorem L8aS (X : List Int) : (L8a X).S = S8a X := rfl
theorem L8aM (X : List Int) (p : K8a X) : (L8a X).μ p = X.length - p.i := rfl
theorem L8aR (X : List Int) (p q : K8a X) : (L8a X).R p q = (True) := rfl
def I8 (X : List Int) : Nat → LI := fun n => L8a X
theorem I8_0 (X : List Int) : I8 X 0 = L8a X := rfl
set_option maxHeartbeats 4000000 in
theorem walk8 {Phi : Nat → Option Ctr} (P9 : Phi 9 = some CAw) (P11 : Phi 11 = some CFd) (P14 : Phi 14 = some CSp) (P15 : Phi 15 = some CNw) (P19 : Phi 19 = some CQt) (X : List Int) (hX : Okb X) : evC Phi (I8 X) rc8 ⟨initS [.lst [.int .u8 0] (u8s X)], initM false []⟩ (kRet rv8 (.bool true) false []) := by
  simp (config := {maxSteps := 2000000}) only [rc8, initM_f, rv8, evC_seq, evC_region, eo_mov, evG_no, Option.getD_some, ev_mov, av_c, gv_bool, bind1_some', un1_mov, goOp_some, put_q, evOps_nil, kEnd_at, hasG_no, hasG_nil, kEndB_f, kSeq_n, eo_call, P9, CAw, evCl_mk, ev_call, avs_nil, clO_some, call_pure, lends_nil, callN_some, callP_some, List.nil_append, c2_bool, flat2_bool, backOK_nil, Bool.and_self, clQ_t, eo_not, ev_not, av_t, upd_at, Nat.reduceEqDiff, initS_at, List.getD_cons_succ, if_false, if_true, un1_not, Bool.not_true, evC_cond, evC_ret, kSeq_r, kRet_r, retOK_eq, retL_cons, retV_t, retL_nil, consO_some, lkR_one, lk1_bool, lkT_f, applyL_nil, retOK_f, rtO_some, resV_one, leV1_bool, and_true, knowL_nil, askL_nil, evC_skip, List.getD_cons_zero, gv_lst, eo_len, ev_len, len_lst, u8s_len, eo_cmp, ev_cmp, gv_int, cmp2_some, cmp_gtr, toR_some', and_self, gv_nil, evC_block, evC_loop, I8_0, L8aS, S8a, SL_ge, lkL_cons, lkS_nil_vw, lookM_cons, lookM_nil, nlK_buf, lkS_lst, lkS_int, lkL_nil, List.cons_append, lkM_cons, lkB_buf, lkM_nil, applyL_nls, nlV_nil, Nat.reduceLeDiff, decide_true, List.length_cons, List.length_nil, Nat.zero_add, Nat.reduceLT, nlP_t, SL_ge0, leL_cons, killS_at, kill3_nil, leV1_vw, kill3_lst, leV1_lst, kill3_int, leV1_int, leL_nil, true_and, leM_cons, updM_at, killM_at, killO_none, leB_buf, leM_nil, L8aR, SL_st, lookL_cons, lookL_nil, cmp_lss, eo_iaddrS, ev_iaddrS, bind2_some', iaddrS_lst, beq_self_eq_true, iasB_true, Int.toNat_natCast, eo_load, ev_load, gv_ep, load_ep, getE_u8, valOf_one, List.getElem?_cons_zero, ldV_some, cmp_neq, evG_yes, pathG_bool, gG_some, guardR_q, guardL_nil, gv_gd, List.contains_cons, List.contains_nil, Bool.or_false, List.all_cons, List.all_nil, gvB_true, eo_pick, ev_pick, pick3_some, pickV_bool, Bool.cond_false_right, hasG_yes, kEndB_t, ungdS_at, ungd_vw, gv_vw, ungd_int, eo_bsliceO, vwsG_cons, ar_t, ungd_junk, vws1_int, vwsG_nil, frzL_nil, goF_eq, ev_bsliceO, List.replicate_succ, List.replicate_zero, fillS_cons, fsK_some, cells_int, fsC_some, c0_int, List.set_cons_zero, fillS_nil, blO2_some, Nat.reduceMul, Nat.reduceAdd, put_n, killB_buf, eo_append, ev_append, kill3_vw, kill3_junk, appR_vw, ysOf_vw, ysV_buf, killO_some, appV_buf, appK_some, Nat.mul_one, u8s_snoc, kBlk_n, eo_arith, ev_arith, arith_add, kLoop_n, lkS_vw_vw, renK_t, ungd_lst, askL_cons, ungd_bool, condK_bool, knowL_cons, evC_exit, kSeq_e, kLoop_e, kBlk_e, kBlkB_t, evC_ghost, vws0_vw, frzL_cons, frzQ_buf, frzP_t, P15, CNw, Es.av, c2_agg, c0_bool, flat2_agg, flat0_bool, frzSl_at, frz3_vw, P11, CFd, avs_cons, frz3_junk, gv_agg, lends_cons, lend1_agg, lendC_cons, lendA_bool, lendC_nil, consL_some', aggL_some, lend1_lst, decU_u8s, c2_tup, c1_agg, c1_lst, flat2_tup, flat1_agg, flat1_lst, Bool.and_true, Bool.true_and, gv_tup, eo_extract, ev_extract, un1_extract, List.getElem?_cons_succ, eo_alloc, ev_alloc, killB_cells, List.map_cons, kill0_bool, List.map_nil, eo_store, kill3_agg, vwsT_ptr, Option.getD_none, ev_store, gv_ptr, store_ptr, cells_agg, frzM_at, frzO_none, stB_cells, stC_true, setC_cons, List.set_cons_succ, setC_nil, put_s, liveB_cells, cmp_eql, arith_sub, guardL_cons, pathP_cons, boolOf_bool, pathP_nil, Bool.cond_true_left, evC_draw, preK_some, needD_mov, preB_f, needD_b2s, needD_cmp, needD_len, needD_pick, needD_call, needD_faddr, needD_load, needD_not, preK_nil, evD_cons, evDk_some, newOK_none, ev_b2s, b2s_lst, ByteE_u8s, bytesOf_u8s, gv_str, cmp_eqlS, i64s_len, P14, CSp, c2_lst, flat2_lst, implies_true, P19, CQt, ev_faddr, ungd_ptr, faddr_ptr, Nat.add_zero, load_ptr, ldB_cells, cmp_eqlB, evD_nil, knowD_cons, knowD_nil, pairD_cons, pairOK_eq, newMen_none, Nat.reduceBEq, Bool.or_true, pairB_t, pairD_nil, pairB_f, chkR_eq, pslots_gd, optN_some, disjN_cons, Bool.not_false, disjN_nil, newI_none, pslots_str, pslots_lst, true_imp_iff, Bool.false_eq_true, false_imp_iff]
  intro _ h _
  have h := of_decide_eq_false h
  refine ⟨⟨0, [], by omega, by simp, by simp⟩, ⟨rfl, rfl⟩, ?_⟩
  rintro ⟨i, b, hi, hb, hx⟩
  dsimp only
  refine ⟨fun hc => ?_, fun hc => ?_⟩
  · have hc := of_decide_eq_true hc
    have hg := hX.getD i
    refine ⟨⟨by omega, by omega⟩, fun _ => ⟨fun ha => ⟨by omega, by omega, ⟨i + 1, b ++ [X.getD i 0], by omega, by simp; omega, ?_⟩, ⟨AV.int_inj' (wr_succ i (by omega)), rfl⟩, by dsimp only; omega⟩, fun ha => ⟨⟨i + 1, b, by omega, by omega, hx⟩, ⟨AV.int_inj' (wr_succ i (by omega)), rfl⟩, by dsimp only; omega⟩⟩⟩
    intro c hcm
    simp only [Bool.and_eq_true, Bool.not_eq_true', decide_eq_false_iff_not] at ha
    rcases List.mem_append.1 hcm with hcm | hcm
    · exact hx c hcm
    · simp only [List.mem_singleton] at hcm
      subst hcm; exact ⟨ha.1, ha.2, hg.1, hg.2⟩
  · have hc := of_decide_eq_false hc
    obtain ⟨e1, e2, e3, e4⟩ := fd_plain b true (fun c hc => (hx c hc).1)
    have e5 : strip b = b := sO_id b (fun c hc => (hx c hc).2.1)
    rw [e1, e2, e3, e4, e5]
    refine ⟨by omega, fun _ _ => ⟨fun h0 => ?_, fun h0 => ?_⟩⟩
    · have h0 := of_decide_eq_true h0
      have ew : IntKind.i64.wrap ((b.length : Int) - 1) = ((b.length - 1 : Nat) : Int) := by rw [wr_in _ (by omega) (by omega)]; omega
      rw [ew, show (((b.length - 1 : Nat) : Int)).toNat = b.length - 1 by omega]
      have hb1 : b ≠ [] := by rintro rfl; simp at h0
      have eq : qb true b = (decide (b.getD (b.length - 1) 0 = 13) || decide (b.getD (b.length - 1) 0 = 10)) := by rw [qb_last b hb1]; rfl
      intro _
      refine ⟨⟨by omega, by omega⟩, fun _ => ⟨fun _ => ⟨by omega, by omega⟩, fun _ => by omega, fun _ => by omega, AV.bool_inj' ?_⟩⟩
      rw [← eq]
      simp
    · have h0 := of_decide_eq_false h0
      have hb0 : b = [] := by
        cases b with
        | nil => rfl
        | cons x b => simp at h0
      subst hb0
      exact ⟨fun _ => by simp, fun _ => by simp, AV.bool_inj' (by simp [qb])⟩
end Go.Proofs.Ytfmndopgbikgjaa
