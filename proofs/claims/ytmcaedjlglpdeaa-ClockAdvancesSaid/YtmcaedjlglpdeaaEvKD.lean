/- A part of the proof: symbolic evaluation of the program's functions, proved sound against the model; no condition. -/
import Derived.Test.YtmcaedjlglpdeaaEvKB
namespace Go.Proofs.Ytmcaedjlglpdeaa
open Go Go.RowKit Go.Ev
set_option linter.unusedSimpArgs false
set_option linter.unusedVariables false
set_option maxRecDepth 20000

/-! ### ClockAdvances -/
structure K3 where
  i : Nat
  hi : i < 2
  j : Nat
  hj : j ≤ 3
def S3a (l : List Ck) (n more : Int) (p : {i : Nat // i ≤ 2}) : SL := ⟨[(1, .int .i64 n), (5, .int .u16 more), (30, .lst [.int .i64 0, .int .i64 0, .bool false] (cks l)), (31, .int .i64 2), (32, .int .i64 p.1)], []⟩
def S3b (l : List Ck) (n more : Int) (p : K3) : SL := ⟨[(1, .int .i64 n), (5, .int .u16 more), (30, .lst [.int .i64 0, .int .i64 0, .bool false] (cks l)), (31, .int .i64 2), (32, .int .i64 p.i), (14, .ptr 896 0), (42, .lst [.int .i64 0] (i64s [n, W more, W (17179869184 - (l.getD p.i ck0).t)])), (43, .int .i64 3), (44, .int .i64 p.j)], [(896, .cells (l.getD p.i ck0).cs)]⟩
def L3a (l : List Ck) (n more : Int) : LI := ⟨{i : Nat // i ≤ 2}, S3a l n more, fun p => 2 - p.1, fun _ _ => True⟩
def L3b (l : List Ck) (n more : Int) : LI := ⟨K3, S3b l n more, fun p => 3 - p.j, fun p q => q.i = p.i⟩
def I3 (l : List Ck) (n more : Int) : Nat → LI := fun f => match f with
  | 0 => L3a l n more
  | _ => L3b l n more
theorem I30 (l : List Ck) (n more : Int) : I3 l n more 0 = L3a l n more := rfl
theorem I31 (l : List Ck) (n more : Int) : I3 l n more 1 = L3b l n more := rfl
theorem L3aS (l : List Ck) (n more : Int) : (L3a l n more).S = S3a l n more := rfl
theorem L3bS (l : List Ck) (n more : Int) : (L3b l n more).S = S3b l n more := rfl
theorem L3aM (l : List Ck) (n more : Int) (p) : (L3a l n more).μ p = 2 - p.1 := rfl
theorem L3bM (l : List Ck) (n more : Int) (p) : (L3b l n more).μ p = 3 - p.j := rfl
theorem L3aR (l : List Ck) (n more : Int) (p q) : (L3a l n more).R p q = True := rfl
theorem L3bR (l : List Ck) (n more : Int) (p q) : (L3b l n more).R p q = (q.i = p.i) := rfl
theorem walk3 {Phi : Nat → Option Ctr} (P9 : Phi 9 = some CD) (P10 : Phi 10 = some CA) (P11 : Phi 11 = some CA) (P12 : Phi 12 = some CT) (P13 : Phi 13 = some CT) (P14 : Phi 14 = some CV) (P15 : Phi 15 = some CV) (P16 : Phi 16 = some CW)
    (c : Ck) (n t b : Int) (s : Bool) (more : Int) : evC Phi (I3 [c, made t b s] n more) rc3 ⟨initS [c.av, .int .i64 n, .int .i64 t, .int .i64 b, .bool s, .int .u16 more], initM false []⟩ (kRet rv3 (.bool true) false []) := by
  simp only [rc3, rv3, P9, P10, P11, P12, P13, P14, P15, P16, I30, I31, L3aS, L3bS, L3aM, L3bM, L3aR, L3bR, S3a, S3b, gvB_true, beqO_some, killO_none, killO_some, consO_some, eqaB_t, eqaB_f, andO_some, mmO_some, iasB_true, iaA_some, ldV_some, ldB_cells, valB_true, stC_true, stB_cells, bxO_some, blO_some, blS_some, faK_some, faC_some, fsK_some, fsC_some, clO_some, clQ_true, clP_some, clS_cells, clT_some, clU_true, condK_bool, kEndB_t, kEndB_f, kBlkB_t, kBlkB_f, rtO_some, rtM_cells, rvP_ptr, rvB_cells, gv_int, ungd_int, gv_bool, ungd_bool, gv_str, ungd_str, gv_agg, ungd_agg, gv_tup, ungd_tup, gv_lst, ungd_lst, gv_ep, ungd_ep, gv_ptr, ungd_ptr, gv_ap, ungd_ap, gv_vw, ungd_vw, gv_bp, ungd_bp, gv_fr, ungd_fr, gv_fn, ungd_fn, gv_nil, ungd_nil, gv_junk, ungd_junk, ungd_gd, gv_gd, kill3_int, kill0_int, kill1_int, kill3_bool, kill0_bool, kill1_bool, kill3_str, kill0_str, kill1_str, kill3_agg, kill1_agg, kill3_tup, kill3_lst, kill0_lst, kill1_lst, kill3_ep, kill0_ep, kill1_ep, kill3_ptr, kill0_ptr, kill3_ap, kill0_ap, kill3_vw, kill0_vw, kill3_bp, kill0_bp, kill3_fr, kill0_fr, kill1_fr, kill3_fn, kill0_fn, kill1_fn, kill3_nil, kill0_nil, kill1_nil, kill3_junk, kill0_junk, kill1_junk, leA_int, leV1_int, leA_bool, leV1_bool, leA_str, leV1_str, leA_agg, leA_tup, leV1_tup, leA_lst, leV1_lst, leA_ep, leV1_ep, leA_ptr, leV1_ptr, leA_ap, leV1_ap, leA_vw, leV1_vw, leA_bp, leV1_bp, leA_fr, leV1_fr, leA_fn, leV1_fn, leA_junk, leV1_junk, leA_nil, leA_nilnil, leV1_agg, leV1_nil, leAs_nil, leAs_cons, leVs_nil, leVs_cons, resV_one, resV_two, evOps_nil, evOps_cons, goOp_some, evG_no, evG_yes, gG_some, pathG_bool, pathG_gd, guardR_q, guardR_u, guardU_some, guardL_nil, guardL_cons, pathP_nil, pathP_cons, pathB_nil, pathB_cons, boolOf_bool, boolOf_gd, askL_nil, askL_cons, knowL_nil, knowL_cons, put_q, put_u, put_n, put_s, upd_at, updM_at, killS_at, ungdS_at, killM_at, killB_cells, kill3_gd', av_t, av_c, ar_t, ar_c, avs_nil, avs_cons, bind1_some', bind2_some', ev_mov, ev_not, ev_neg, ev_conv, ev_extract, ev_nilchk, un1_mov, un1_not, un1_neg, un1_conv, un1_nilchk, un1_extract, toR_some', ev_pick, pick3_some, pickV_bool, ev_arith, arith_add, arith_sub, arith_mul, arith_and, arith_or, arith_xor, arith_andNot, arith_quo, arith_rem, ev_cmp, cmp2_some, cmp_eql, cmp_neq, cmp_lss, cmp_leq, cmp_gtr, cmp_geq, cmp_eqlB, cmp_neqB, cmp_eqlS, cmp_neqS, ev_eqa, eqa2_some, eqaR_agg, eqC_nil, eqC_int, eqC_bool, eqC_str, ev_len, len_lst, len_nil, len_str, ev_minmax, mm_nil, mm_max, mm_min, ev_faddr, faddr_ptr, faddr_ep, ev_iaddrS, iaddrS_lst, ev_iaddrA, iaddrA_ptr, ev_load, load_ptr, load_ep, valOf_agg, valOf_one, ev_store, store_ptr, setC_nil, setC_cons, cells_agg, cells_int, cells_bool, cells_str, cells_lst, cells_ep, cells_ptr, cells_ap, cells_vw, cells_bp, cells_fr, cells_fn, cells_nil, ev_alloc, ev_box, boxR_eq, ev_build, ev_bslice, fillA_nil, fillA_cons, fillS_nil, fillS_cons, ev_call, call_pure, call_state, c0_int, c1_int, c2_int, c0_bool, c1_bool, c2_bool, c0_str, c1_str, c2_str, c0_lst, c1_lst, c2_lst, c0_fn, c1_fn, c2_fn, c0_nil, c1_nil, c2_nil, c1_agg, c2_agg, c2_tup, evC_skip, evC_region, evC_seq, evC_cond, evC_block, evC_loop, evC_exit, evC_ret, kEnd_at, hasG_nil, hasG_no, hasG_yes, kSeq_n, kSeq_e, kSeq_r, kBlk_n, kBlk_r, kBlk_e, kLoop_n, kLoop_e, kLoop_r, kRet_r, kRet_n, retOK_f, retOK_t, retL_nil, retL_cons, retV_t, retV_c, initM_f, initM_t, initS_at, lookL_nil, lookL_cons, lookM_nil, lookM_cons, SL_st, SL_ge, leL_nil, leL_cons, leM_nil, leM_cons, evC_draw, evD_nil, evD_cons, evDk_some, newOK_none, newOK_some, pairD_nil, pairD_cons, pairOK_eq, pairB_t, pairB_f, newMen_none, newMen_some, noMen_eq, noB_none, noB_some, chkR_eq, newI_none, newI_some, optN_none, optN_some, disjN_nil, disjN_cons, pslots_gd, pslots_int, pslots_bool, pslots_str, pslots_agg, pslots_tup, pslots_lst, pslots_ep, pslots_ptr, pslots_fn, pslots_nil, pslots_junk, knowD_nil, knowD_cons, preK_nil, preK_none, preK_some, preB_t, preB_f, needD_alloc, needD_box, killB_cs, needD_mov, needD_pick, needD_arith, needD_cmp, needD_eqa, needD_not, needD_neg, needD_conv, needD_b2s, needD_len, needD_minmax, needD_faddr, needD_fld, needD_iaddrS, needD_iaddrA, needD_load, needD_store, needD_build, needD_bslice, needD_extract, needD_nilchk, needD_call, needD_append, needD_slice, needD_mkslice, needD_copy, reduceIte, Nat.reduceEqDiff, Nat.reduceMul, Nat.reduceAdd, Nat.reduceBEq, Option.getD_some, Option.getD_none, List.length_cons, List.length_nil, List.getElem?_cons_succ, List.getElem?_cons_zero, List.drop_zero, List.drop_succ_cons, List.take_succ_cons, List.take_zero, List.map_cons, List.map_nil, List.all_cons, List.all_nil, List.contains_cons, List.contains_nil, List.nil_append, List.cons_append, List.set_cons_zero, List.set_cons_succ, List.replicate_succ, List.replicate_zero, List.getD_cons_zero, List.getD_cons_succ, beq_self_eq_true, Bool.and_self, Bool.or_false, Bool.true_or, Bool.or_true, Bool.and_true, Bool.true_and, Bool.cond_true_left, Bool.cond_false_right, and_true, true_and, true_imp_iff, and_self, imp_self, implies_true, Nat.reduceLeDiff, decide_true, decide_false, if_true, if_false, Nat.zero_mul, Nat.add_zero, Nat.zero_add, Int.toNat_natCast, Int.reduceToNat, Int.reduceLE, Int.reduceLT, Nat.reduceLT, i64s_len, getE_i64, Bool.not_true, Bool.not_false, Bool.false_eq_true, Bool.true_eq_false, false_imp_iff, List.length_map, getE_u8, u8s_len, CV, CS, CA, CT, CC, CR, CJ, CM, CD, CW, Ck.av, Ck.cs, Ck.eta, E.av, E.cs, E.eta, cks_len, getE_ck, evs_len, getE_ev]
  have wi : ∀ i : Nat, i < 5 → IntKind.i64.wrap ((i:Int) + 1) = ((i + 1 : Nat) : Int) := fun i hi => by rw [wr_in _ (by omega) (by omega)]; rfl
  refine ⟨⟨0, by omega⟩, ⟨rfl, rfl, rfl⟩, ?_⟩
  rintro ⟨i, hi⟩ h
  have h := of_decide_eq_true h
  dsimp only at h ⊢
  refine ⟨⟨by omega, by omega⟩, ⟨i, by omega, 0, by omega⟩, ⟨⟨rfl, rfl, rfl, rfl⟩, rfl⟩, ?_⟩
  rintro ⟨k, hk, j, hj⟩ hR
  dsimp only at hR ⊢
  refine ⟨fun h2 => ?_, fun h2 => ?_⟩
  · have h2 := of_decide_eq_true h2
    exact ⟨⟨by omega, by omega⟩, ⟨k, hk, j + 1, by omega⟩, ⟨⟨rfl, rfl, AV.int_inj' (wi j (by omega))⟩, rfl⟩, hR, by dsimp only; omega⟩
  · exact ⟨⟨k + 1, by omega⟩, AV.int_inj' (wi k (by omega)), by dsimp only; omega⟩
end Go.Proofs.Ytmcaedjlglpdeaa
