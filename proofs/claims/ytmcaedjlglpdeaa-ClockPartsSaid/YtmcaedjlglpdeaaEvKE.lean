/- A part of the proof: symbolic evaluation of the program's functions, proved sound against the model; no condition. -/
import Derived.Test.YtmcaedjlglpdeaaEvKB
namespace Go.Proofs.Ytmcaedjlglpdeaa
open Go Go.RowKit Go.Ev
set_option linter.unusedSimpArgs false
set_option linter.unusedVariables false
set_option maxRecDepth 20000

/-! ### ClockAdjusts, ClockParts -/
noncomputable def sameB (a b : AV) : Bool := @decide (a = b) (Classical.propDecidable _)
theorem sameB_self (a : AV) : sameB a a = true := @decide_eq_true _ (Classical.propDecidable _) rfl
theorem evs_inj {l m : List E} (h : evs l = evs m) : l = m := by
  induction l generalizing m with
  | nil => cases m with
    | nil => rfl
    | cons y m => simp [evs] at h
  | cons x l ih => cases m with
    | nil => simp [evs] at h
    | cons y m =>
      simp only [evs, List.map_cons, List.cons.injEq] at h
      rw [ih h.2]
      congr 1
      cases x; cases y
      simpa [E.cs] using h.1
theorem sameB_evs (l m : List E) : sameB (.lst [.int .u16 0, .int .u32 0, .int .u16 0, .int .u8 0, .int .u8 0, .int .u8 0, .bool false, .int .u8 0, .int .u8 0, .int .u8 0] (evs l)) (.lst [.int .u16 0, .int .u32 0, .int .u16 0, .int .u8 0, .int .u8 0, .int .u8 0, .bool false, .int .u8 0, .int .u8 0, .int .u8 0] (evs m)) = decide (l = m) := by
  by_cases h : l = m
  · subst h; rw [sameB_self]; simp
  · have h2 : ¬ (AV.lst [.int .u16 0, .int .u32 0, .int .u16 0, .int .u8 0, .int .u8 0, .int .u8 0, .bool false, .int .u8 0, .int .u8 0, .int .u8 0] (evs l) = .lst [.int .u16 0, .int .u32 0, .int .u16 0, .int .u8 0, .int .u8 0, .int .u8 0, .bool false, .int .u8 0, .int .u8 0, .int .u8 0] (evs m)) := fun e => h (evs_inj (by injection e))
    rw [decide_eq_false h]
    exact @decide_eq_false _ (Classical.propDecidable _) h2
noncomputable def CL : Ctr := ⟨false, fun _ xs => match xs with
  | [a, b] => some (∃ l m : List E, a = .lst [.int .u16 0, .int .u32 0, .int .u16 0, .int .u8 0, .int .u8 0, .int .u8 0, .bool false, .int .u8 0, .int .u8 0, .int .u8 0] (evs l) ∧ b = .lst [.int .u16 0, .int .u32 0, .int .u16 0, .int .u8 0, .int .u8 0, .int .u8 0, .bool false, .int .u8 0, .int .u8 0, .int .u8 0] (evs m), .bool (sameB a b), [])
  | _ => none⟩
def S4 (l : List Ck) (to : Int) (p : {i : Nat // i ≤ 2}) : SL := ⟨[(4, .int .u32 to), (24, .lst [.int .i64 0, .int .i64 0, .bool false] (cks l)), (25, .int .i64 2), (26, .int .i64 p.1)], []⟩
def L4 (l : List Ck) (to : Int) : LI := ⟨{i : Nat // i ≤ 2}, S4 l to, fun p => 2 - p.1, fun _ _ => True⟩
def I4 (l : List Ck) (to : Int) : Nat → LI := fun _ => L4 l to
theorem I4S (l : List Ck) (to : Int) (f : Nat) : (I4 l to f).S = S4 l to := rfl
theorem I4M (l : List Ck) (to : Int) (f : Nat) (p) : (I4 l to f).μ p = 2 - p.1 := rfl
theorem I4R (l : List Ck) (to : Int) (f : Nat) (p q) : (I4 l to f).R p q = True := rfl
theorem walk4 {Phi : Nat → Option Ctr} (P9 : Phi 9 = some CD) (P16 : Phi 16 = some CW) (P17 : Phi 17 = some CJ) (P18 : Phi 18 = some CJ) (P19 : Phi 19 = some CL)
    (c : Ck) (t b : Int) (s : Bool) (to : Int) (h0 : 0 ≤ to) (h1 : to ≤ 4294967295) : evC Phi (I4 [c, made t b s] to) rc4 ⟨initS [c.av, .int .i64 t, .int .i64 b, .bool s, .int .u32 to], initM false []⟩ (kRet rv4 (.bool true) false []) := by
  simp only [rc4, rv4, P9, P16, P17, P18, P19, I4S, I4M, I4R, S4, CL, sameB_self, gvB_true, beqO_some, killO_none, killO_some, consO_some, eqaB_t, eqaB_f, andO_some, mmO_some, iasB_true, iaA_some, ldV_some, ldB_cells, valB_true, stC_true, stB_cells, bxO_some, blO_some, blS_some, faK_some, faC_some, fsK_some, fsC_some, clO_some, clQ_true, clP_some, clS_cells, clT_some, clU_true, condK_bool, kEndB_t, kEndB_f, kBlkB_t, kBlkB_f, rtO_some, rtM_cells, rvP_ptr, rvB_cells, gv_int, ungd_int, gv_bool, ungd_bool, gv_str, ungd_str, gv_agg, ungd_agg, gv_tup, ungd_tup, gv_lst, ungd_lst, gv_ep, ungd_ep, gv_ptr, ungd_ptr, gv_ap, ungd_ap, gv_vw, ungd_vw, gv_bp, ungd_bp, gv_fr, ungd_fr, gv_fn, ungd_fn, gv_nil, ungd_nil, gv_junk, ungd_junk, ungd_gd, gv_gd, kill3_int, kill0_int, kill1_int, kill3_bool, kill0_bool, kill1_bool, kill3_str, kill0_str, kill1_str, kill3_agg, kill1_agg, kill3_tup, kill3_lst, kill0_lst, kill1_lst, kill3_ep, kill0_ep, kill1_ep, kill3_ptr, kill0_ptr, kill3_ap, kill0_ap, kill3_vw, kill0_vw, kill3_bp, kill0_bp, kill3_fr, kill0_fr, kill1_fr, kill3_fn, kill0_fn, kill1_fn, kill3_nil, kill0_nil, kill1_nil, kill3_junk, kill0_junk, kill1_junk, leA_int, leV1_int, leA_bool, leV1_bool, leA_str, leV1_str, leA_agg, leA_tup, leV1_tup, leA_lst, leV1_lst, leA_ep, leV1_ep, leA_ptr, leV1_ptr, leA_ap, leV1_ap, leA_vw, leV1_vw, leA_bp, leV1_bp, leA_fr, leV1_fr, leA_fn, leV1_fn, leA_junk, leV1_junk, leA_nil, leA_nilnil, leV1_agg, leV1_nil, leAs_nil, leAs_cons, leVs_nil, leVs_cons, resV_one, resV_two, evOps_nil, evOps_cons, goOp_some, evG_no, evG_yes, gG_some, pathG_bool, pathG_gd, guardR_q, guardR_u, guardU_some, guardL_nil, guardL_cons, pathP_nil, pathP_cons, pathB_nil, pathB_cons, boolOf_bool, boolOf_gd, askL_nil, askL_cons, knowL_nil, knowL_cons, put_q, put_u, put_n, put_s, upd_at, updM_at, killS_at, ungdS_at, killM_at, killB_cells, kill3_gd', av_t, av_c, ar_t, ar_c, avs_nil, avs_cons, bind1_some', bind2_some', ev_mov, ev_not, ev_neg, ev_conv, ev_extract, ev_nilchk, un1_mov, un1_not, un1_neg, un1_conv, un1_nilchk, un1_extract, toR_some', ev_pick, pick3_some, pickV_bool, ev_arith, arith_add, arith_sub, arith_mul, arith_and, arith_or, arith_xor, arith_andNot, arith_quo, arith_rem, ev_cmp, cmp2_some, cmp_eql, cmp_neq, cmp_lss, cmp_leq, cmp_gtr, cmp_geq, cmp_eqlB, cmp_neqB, cmp_eqlS, cmp_neqS, ev_eqa, eqa2_some, eqaR_agg, eqC_nil, eqC_int, eqC_bool, eqC_str, ev_len, len_lst, len_nil, len_str, ev_minmax, mm_nil, mm_max, mm_min, ev_faddr, faddr_ptr, faddr_ep, ev_iaddrS, iaddrS_lst, ev_iaddrA, iaddrA_ptr, ev_load, load_ptr, load_ep, valOf_agg, valOf_one, ev_store, store_ptr, setC_nil, setC_cons, cells_agg, cells_int, cells_bool, cells_str, cells_lst, cells_ep, cells_ptr, cells_ap, cells_vw, cells_bp, cells_fr, cells_fn, cells_nil, ev_alloc, ev_box, boxR_eq, ev_build, ev_bslice, fillA_nil, fillA_cons, fillS_nil, fillS_cons, ev_call, call_pure, call_state, c0_int, c1_int, c2_int, c0_bool, c1_bool, c2_bool, c0_str, c1_str, c2_str, c0_lst, c1_lst, c2_lst, c0_fn, c1_fn, c2_fn, c0_nil, c1_nil, c2_nil, c1_agg, c2_agg, c2_tup, evC_skip, evC_region, evC_seq, evC_cond, evC_block, evC_loop, evC_exit, evC_ret, kEnd_at, hasG_nil, hasG_no, hasG_yes, kSeq_n, kSeq_e, kSeq_r, kBlk_n, kBlk_r, kBlk_e, kLoop_n, kLoop_e, kLoop_r, kRet_r, kRet_n, retOK_f, retOK_t, retL_nil, retL_cons, retV_t, retV_c, initM_f, initM_t, initS_at, lookL_nil, lookL_cons, lookM_nil, lookM_cons, SL_st, SL_ge, leL_nil, leL_cons, leM_nil, leM_cons, evC_draw, evD_nil, evD_cons, evDk_some, newOK_none, newOK_some, pairD_nil, pairD_cons, pairOK_eq, pairB_t, pairB_f, newMen_none, newMen_some, noMen_eq, noB_none, noB_some, chkR_eq, newI_none, newI_some, optN_none, optN_some, disjN_nil, disjN_cons, pslots_gd, pslots_int, pslots_bool, pslots_str, pslots_agg, pslots_tup, pslots_lst, pslots_ep, pslots_ptr, pslots_fn, pslots_nil, pslots_junk, knowD_nil, knowD_cons, preK_nil, preK_none, preK_some, preB_t, preB_f, needD_alloc, needD_box, killB_cs, needD_mov, needD_pick, needD_arith, needD_cmp, needD_eqa, needD_not, needD_neg, needD_conv, needD_b2s, needD_len, needD_minmax, needD_faddr, needD_fld, needD_iaddrS, needD_iaddrA, needD_load, needD_store, needD_build, needD_bslice, needD_extract, needD_nilchk, needD_call, needD_append, needD_slice, needD_mkslice, needD_copy, reduceIte, Nat.reduceEqDiff, Nat.reduceMul, Nat.reduceAdd, Nat.reduceBEq, Option.getD_some, Option.getD_none, List.length_cons, List.length_nil, List.getElem?_cons_succ, List.getElem?_cons_zero, List.drop_zero, List.drop_succ_cons, List.take_succ_cons, List.take_zero, List.map_cons, List.map_nil, List.all_cons, List.all_nil, List.contains_cons, List.contains_nil, List.nil_append, List.cons_append, List.set_cons_zero, List.set_cons_succ, List.replicate_succ, List.replicate_zero, List.getD_cons_zero, List.getD_cons_succ, beq_self_eq_true, Bool.and_self, Bool.or_false, Bool.true_or, Bool.or_true, Bool.and_true, Bool.true_and, Bool.cond_true_left, Bool.cond_false_right, and_true, true_and, true_imp_iff, and_self, imp_self, implies_true, Nat.reduceLeDiff, decide_true, decide_false, if_true, if_false, Nat.zero_mul, Nat.add_zero, Nat.zero_add, Int.toNat_natCast, Int.reduceToNat, Int.reduceLE, Int.reduceLT, Nat.reduceLT, i64s_len, getE_i64, Bool.not_true, Bool.not_false, Bool.false_eq_true, Bool.true_eq_false, false_imp_iff, List.length_map, getE_u8, u8s_len, CV, CS, CA, CT, CC, CR, CJ, CM, CD, CW, Ck.av, Ck.cs, Ck.eta, E.av, E.cs, E.eta, cks_len, getE_ck, evs_len, getE_ev]
  have wi : ∀ i : Nat, i < 5 → IntKind.i64.wrap ((i:Int) + 1) = ((i + 1 : Nat) : Int) := fun i hi => by rw [wr_in _ (by omega) (by omega)]; rfl
  refine ⟨⟨0, by omega⟩, ⟨rfl, rfl, rfl⟩, ?_⟩
  rintro ⟨i, hi⟩ h
  have h := of_decide_eq_true h
  dsimp only at h ⊢
  exact ⟨⟨by omega, by omega⟩, ⟨h0, h1⟩, ⟨h0, h1⟩, ⟨_, _, rfl, rfl⟩, ⟨i + 1, by omega⟩, AV.int_inj' (wi i (by omega)), by dsimp only; omega⟩
theorem advOK_iff (c : Ck) (n : Int) : advOK c n = true ↔ valid c = true ∧ 0 ≤ n ∧ n ≤ 17179869184 - c.t ∧ (c.t + n) / 10 + c.b ≤ 4294967294 := by
  cases hv : valid c with
  | false => simp [advOK, hv]
  | true =>
    have hc := (valid_iff c).mp hv
    simp only [advOK, hv, Bool.true_and, true_and]
    rw [show W (17179869184 - c.t) = 17179869184 - c.t from wr_in _ (by omega) (by omega)]
    by_cases hn : 0 ≤ n ∧ n ≤ 17179869184 - c.t
    · rw [show W (c.t + n) = c.t + n from wr_in _ (by omega) (by omega)]
      have e : (decide (n < 0) || decide (17179869184 - c.t < n)) = false := by simp; omega
      rw [e]
      simp only [Bool.not_false, Bool.true_and]
      rw [valid_iff]
      dsimp only
      constructor
      · intro h; exact ⟨hn.1, hn.2, by omega⟩
      · intro h; exact ⟨by omega, by omega, hc.2.2.1, by omega, by omega, by omega, by omega⟩
    · have e : (decide (n < 0) || decide (17179869184 - c.t < n)) = true := by simp; omega
      rw [e]
      simp
      omega
theorem adv_of {c : Ck} {n : Int} (h : advOK c n = true) : adv c n = ⟨c.t + n, c.b, c.s⟩ := by
  have h2 := (advOK_iff c n).mp h
  have hc := (valid_iff c).mp h2.1
  simp only [adv, h, if_true]
  rw [show W (c.t + n) = c.t + n from wr_in _ (by omega) (by omega)]
theorem walk5 {Phi : Nat → Option Ctr} (P9 : Phi 9 = some CD) (P10 : Phi 10 = some CA) (P12 : Phi 12 = some CT) (P14 : Phi 14 = some CV) (P16 : Phi 16 = some CW) (P17 : Phi 17 = some CJ)
    (t b : Int) (s : Bool) (x y : Int) (to : Int) (h0 : 0 ≤ to) (h1 : to ≤ 4294967295) (hx : 0 ≤ x) (hx1 : x ≤ 65535) (hy : 0 ≤ y) (hy1 : y ≤ 65535) : evC Phi noI rc5 ⟨initS [.int .i64 t, .int .i64 b, .bool s, .int .u16 x, .int .u16 y, .int .u32 to], initM false []⟩ (kRet rv5 (.bool true) false []) := by
  have e1 : IntKind.i64.wrap x = x := wr_in _ (by omega) (by omega)
  have e2 : IntKind.i64.wrap y = y := wr_in _ (by omega) (by omega)
  have e3 : IntKind.i64.wrap (x + y) = x + y := wr_in _ (by omega) (by omega)
  have e4 : to.tmod 4000000000 = to % 4000000000 := tmod_nn _ _ h0
  simp only [rc5, rv5, P9, P10, P12, P14, P16, P17, e1, e2, e3, e4, gvB_true, beqO_some, killO_none, killO_some, consO_some, eqaB_t, eqaB_f, andO_some, mmO_some, iasB_true, iaA_some, ldV_some, ldB_cells, valB_true, stC_true, stB_cells, bxO_some, blO_some, blS_some, faK_some, faC_some, fsK_some, fsC_some, clO_some, clQ_true, clP_some, clS_cells, clT_some, clU_true, condK_bool, kEndB_t, kEndB_f, kBlkB_t, kBlkB_f, rtO_some, rtM_cells, rvP_ptr, rvB_cells, gv_int, ungd_int, gv_bool, ungd_bool, gv_str, ungd_str, gv_agg, ungd_agg, gv_tup, ungd_tup, gv_lst, ungd_lst, gv_ep, ungd_ep, gv_ptr, ungd_ptr, gv_ap, ungd_ap, gv_vw, ungd_vw, gv_bp, ungd_bp, gv_fr, ungd_fr, gv_fn, ungd_fn, gv_nil, ungd_nil, gv_junk, ungd_junk, ungd_gd, gv_gd, kill3_int, kill0_int, kill1_int, kill3_bool, kill0_bool, kill1_bool, kill3_str, kill0_str, kill1_str, kill3_agg, kill1_agg, kill3_tup, kill3_lst, kill0_lst, kill1_lst, kill3_ep, kill0_ep, kill1_ep, kill3_ptr, kill0_ptr, kill3_ap, kill0_ap, kill3_vw, kill0_vw, kill3_bp, kill0_bp, kill3_fr, kill0_fr, kill1_fr, kill3_fn, kill0_fn, kill1_fn, kill3_nil, kill0_nil, kill1_nil, kill3_junk, kill0_junk, kill1_junk, leA_int, leV1_int, leA_bool, leV1_bool, leA_str, leV1_str, leA_agg, leA_tup, leV1_tup, leA_lst, leV1_lst, leA_ep, leV1_ep, leA_ptr, leV1_ptr, leA_ap, leV1_ap, leA_vw, leV1_vw, leA_bp, leV1_bp, leA_fr, leV1_fr, leA_fn, leV1_fn, leA_junk, leV1_junk, leA_nil, leA_nilnil, leV1_agg, leV1_nil, leAs_nil, leAs_cons, leVs_nil, leVs_cons, resV_one, resV_two, evOps_nil, evOps_cons, goOp_some, evG_no, evG_yes, gG_some, pathG_bool, pathG_gd, guardR_q, guardR_u, guardU_some, guardL_nil, guardL_cons, pathP_nil, pathP_cons, pathB_nil, pathB_cons, boolOf_bool, boolOf_gd, askL_nil, askL_cons, knowL_nil, knowL_cons, put_q, put_u, put_n, put_s, upd_at, updM_at, killS_at, ungdS_at, killM_at, killB_cells, kill3_gd', av_t, av_c, ar_t, ar_c, avs_nil, avs_cons, bind1_some', bind2_some', ev_mov, ev_not, ev_neg, ev_conv, ev_extract, ev_nilchk, un1_mov, un1_not, un1_neg, un1_conv, un1_nilchk, un1_extract, toR_some', ev_pick, pick3_some, pickV_bool, ev_arith, arith_add, arith_sub, arith_mul, arith_and, arith_or, arith_xor, arith_andNot, arith_quo, arith_rem, ev_cmp, cmp2_some, cmp_eql, cmp_neq, cmp_lss, cmp_leq, cmp_gtr, cmp_geq, cmp_eqlB, cmp_neqB, cmp_eqlS, cmp_neqS, ev_eqa, eqa2_some, eqaR_agg, eqC_nil, eqC_int, eqC_bool, eqC_str, ev_len, len_lst, len_nil, len_str, ev_minmax, mm_nil, mm_max, mm_min, ev_faddr, faddr_ptr, faddr_ep, ev_iaddrS, iaddrS_lst, ev_iaddrA, iaddrA_ptr, ev_load, load_ptr, load_ep, valOf_agg, valOf_one, ev_store, store_ptr, setC_nil, setC_cons, cells_agg, cells_int, cells_bool, cells_str, cells_lst, cells_ep, cells_ptr, cells_ap, cells_vw, cells_bp, cells_fr, cells_fn, cells_nil, ev_alloc, ev_box, boxR_eq, ev_build, ev_bslice, fillA_nil, fillA_cons, fillS_nil, fillS_cons, ev_call, call_pure, call_state, c0_int, c1_int, c2_int, c0_bool, c1_bool, c2_bool, c0_str, c1_str, c2_str, c0_lst, c1_lst, c2_lst, c0_fn, c1_fn, c2_fn, c0_nil, c1_nil, c2_nil, c1_agg, c2_agg, c2_tup, evC_skip, evC_region, evC_seq, evC_cond, evC_block, evC_loop, evC_exit, evC_ret, kEnd_at, hasG_nil, hasG_no, hasG_yes, kSeq_n, kSeq_e, kSeq_r, kBlk_n, kBlk_r, kBlk_e, kLoop_n, kLoop_e, kLoop_r, kRet_r, kRet_n, retOK_f, retOK_t, retL_nil, retL_cons, retV_t, retV_c, initM_f, initM_t, initS_at, lookL_nil, lookL_cons, lookM_nil, lookM_cons, SL_st, SL_ge, leL_nil, leL_cons, leM_nil, leM_cons, evC_draw, evD_nil, evD_cons, evDk_some, newOK_none, newOK_some, pairD_nil, pairD_cons, pairOK_eq, pairB_t, pairB_f, newMen_none, newMen_some, noMen_eq, noB_none, noB_some, chkR_eq, newI_none, newI_some, optN_none, optN_some, disjN_nil, disjN_cons, pslots_gd, pslots_int, pslots_bool, pslots_str, pslots_agg, pslots_tup, pslots_lst, pslots_ep, pslots_ptr, pslots_fn, pslots_nil, pslots_junk, knowD_nil, knowD_cons, preK_nil, preK_none, preK_some, preB_t, preB_f, needD_alloc, needD_box, killB_cs, needD_mov, needD_pick, needD_arith, needD_cmp, needD_eqa, needD_not, needD_neg, needD_conv, needD_b2s, needD_len, needD_minmax, needD_faddr, needD_fld, needD_iaddrS, needD_iaddrA, needD_load, needD_store, needD_build, needD_bslice, needD_extract, needD_nilchk, needD_call, needD_append, needD_slice, needD_mkslice, needD_copy, reduceIte, Nat.reduceEqDiff, Nat.reduceMul, Nat.reduceAdd, Nat.reduceBEq, Option.getD_some, Option.getD_none, List.length_cons, List.length_nil, List.getElem?_cons_succ, List.getElem?_cons_zero, List.drop_zero, List.drop_succ_cons, List.take_succ_cons, List.take_zero, List.map_cons, List.map_nil, List.all_cons, List.all_nil, List.contains_cons, List.contains_nil, List.nil_append, List.cons_append, List.set_cons_zero, List.set_cons_succ, List.replicate_succ, List.replicate_zero, List.getD_cons_zero, List.getD_cons_succ, beq_self_eq_true, Bool.and_self, Bool.or_false, Bool.true_or, Bool.or_true, Bool.and_true, Bool.true_and, Bool.cond_true_left, Bool.cond_false_right, and_true, true_and, true_imp_iff, and_self, imp_self, implies_true, Nat.reduceLeDiff, decide_true, decide_false, if_true, if_false, Nat.zero_mul, Nat.add_zero, Nat.zero_add, Int.toNat_natCast, Int.reduceToNat, Int.reduceLE, Int.reduceLT, Nat.reduceLT, i64s_len, getE_i64, Bool.not_true, Bool.not_false, Bool.false_eq_true, Bool.true_eq_false, false_imp_iff, List.length_map, getE_u8, u8s_len, CV, CS, CA, CT, CC, CR, CJ, CM, CD, CW, Ck.av, Ck.cs, Ck.eta, E.av, E.cs, E.eta, cks_len, getE_ck, evs_len, getE_ev]
  generalize made t b s = c
  have hz : 0 ≤ to % 4000000000 := Int.emod_nonneg _ (by omega)
  have hz1 : to % 4000000000 < 4000000000 := Int.emod_lt_of_pos _ (by omega)
  generalize to % 4000000000 = z at hz hz1
  refine ⟨fun h => ?_, fun _ => ⟨by decide, ⟨hz, by omega⟩, fun h => ?_, fun h => ?_⟩⟩
  · exfalso
    by_cases hA : advOK c x = true
    · have hx' := (advOK_iff c x).mp hA
      have ha := adv_of hA
      have hv : valid ⟨c.t + x, c.b, c.s⟩ = true := by
        have hc := (valid_iff c).mp hx'.1
        exact (valid_iff _).mpr ⟨by dsimp only; omega, by dsimp only; omega, hc.2.2.1, by dsimp only; omega, by dsimp only; omega, by dsimp only; omega, by dsimp only; omega⟩
      have hE : advE c x = 0 := by simp [advE, hx'.1, hA]
      have hB : advOK ⟨c.t + x, c.b, c.s⟩ y = advOK c (x + y) := by
        rw [Bool.eq_iff_iff, advOK_iff, advOK_iff]
        dsimp only
        constructor
        · intro hh; exact ⟨hx'.1, by omega, by omega, by omega⟩
        · intro hh; exact ⟨hv, by omega, by omega, by omega⟩
      have hE2 : advE (adv c x) y = advE c (x + y) := by
        rw [ha]; simp only [advE, hv, hx'.1, hB]
      have hC : adv (adv c x) y = adv c (x + y) := by
        rw [ha]
        by_cases hh : advOK c (x + y) = true
        · rw [adv_of hh, adv_of (hB.trans hh)]
          simp [Int.add_assoc]
        · have hh : advOK c (x + y) = false := by simpa using hh
          simp [adv, hB, hh]
      rw [hE2, hC, hE] at h
      simp at h
    · have hA : advOK c x = false := by simpa using hA
      have hE : advE c x ≠ 0 := by
        cases hv : valid c <;> simp [advE, hv, hA]
      have hB : advOK c (x + y) = false := by
        cases hh : advOK c (x + y) with
        | false => rfl
        | true =>
          have := (advOK_iff c (x + y)).mp hh
          have := (advOK_iff c x).mpr ⟨this.1, by omega, by omega, by omega⟩
          rw [hA] at this; cases this
      have hE2 : advE c (x + y) ≠ 0 := by
        cases hv : valid c <;> simp [advE, hv, hB]
      simp [hE, hE2] at h
  · have : adjE c z ≠ 0 := by simpa using h
    have hv : valid c = false := by
      cases hv : valid c with
      | false => rfl
      | true =>
        have h3 : decide (4294967294 < z) = false := by simp; omega
        simp [adjE, adjOK, hv] at this
        omega
    rw [hv]; rfl
  · refine ⟨fun _ => by decide, fun _ => by decide, AV.bool_inj' ?_⟩
    have hv : valid c = true := by
      cases hv : valid c with
      | true => rfl
      | false => simp [adjE, hv] at h
    have hc := (valid_iff c).mp hv
    have h3 : decide (4294967294 < z) = false := by simp; omega
    have ht : c.t.tdiv 10 = c.t / 10 := Int.tdiv_eq_ediv_of_nonneg hc.1
    have hd : adjC c z = ⟨c.t, z - c.t / 10, true⟩ := by
      simp only [adjC, adjOK, hv, h3, W, ht]
      rw [wr_in z (by omega) (by omega), wr_in (c.t / 10) (by omega) (by omega), wr_in _ (by omega) (by omega)]
      rfl
    have hvd : valid ⟨c.t, z - c.t / 10, true⟩ = true := (valid_iff _).mpr ⟨hc.1, hc.2.1, by simp, by dsimp only; omega, by dsimp only; omega, by dsimp only; omega, by dsimp only; omega⟩
    have hsd : stamp ⟨c.t, z - c.t / 10, true⟩ = z := by
      simp only [stamp, hvd, if_true]
      rw [secs_of hvd, wr_u32 _ (by dsimp only; omega) (by dsimp only; omega)]
      dsimp only; omega
    have hsE : stampE ⟨c.t, z - c.t / 10, true⟩ = 0 := by simp [stampE, hvd]
    rw [hd, hsd, hsE]
    by_cases hA : advOK ⟨c.t, z - c.t / 10, true⟩ x = true
    · have hx' := (advOK_iff _ x).mp hA
      have ha := adv_of hA
      dsimp only at hx' ha
      have hvq : valid ⟨c.t + x, z - c.t / 10, true⟩ = true := (valid_iff _).mpr ⟨by dsimp only; omega, by dsimp only; omega, by simp, by dsimp only; omega, by dsimp only; omega, by dsimp only; omega, by dsimp only; omega⟩
      have hsq : stamp ⟨c.t + x, z - c.t / 10, true⟩ = (c.t + x) / 10 + (z - c.t / 10) := by
        simp only [stamp, hvq, if_true]
        rw [secs_of hvq, wr_u32 _ (by dsimp only; omega) (by dsimp only; omega)]
      have hsqE : stampE ⟨c.t + x, z - c.t / 10, true⟩ = 0 := by simp [stampE, hvq]
      have hxt : x.tdiv 10 = x / 10 := Int.tdiv_eq_ediv_of_nonneg hx
      rw [ha, hsq, hsqE, hxt, wr_in (x / 10) (by omega) (by omega), wr_in (x / 10 + 1) (by omega) (by omega), wr_in z (by omega) (by omega), wr_in ((c.t + x) / 10 + (z - c.t / 10)) (by omega) (by omega), wr_in _ (by omega) (by omega)]
      simp; right; omega
    · have hA : advOK ⟨c.t, z - c.t / 10, true⟩ x = false := by simpa using hA
      have hE : advE ⟨c.t, z - c.t / 10, true⟩ x ≠ 0 := by simp [advE, hvd, hA]
      simp [hE]
end Go.Proofs.Ytmcaedjlglpdeaa
