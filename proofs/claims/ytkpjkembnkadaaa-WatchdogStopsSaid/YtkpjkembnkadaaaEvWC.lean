/- A part of the proof: symbolic evaluation of the program's functions, proved sound against the model; no condition. -/
import Derived.Test.YtkpjkembnkadaaaEvWB
namespace Go.Proofs.Ytkpjkembnkadaaa
open Go Go.RowKit Go.Ev
set_option linter.unusedSimpArgs false
set_option linter.unusedVariables false
set_option maxRecDepth 20000

def at7 (n : Nat) : Tm := if n ≤ 10 then ⟨true, 10, 11 - n, 3, 4, decide (7 < n), 0⟩ else ⟨false, 10, 0, 3, 4, false, 1⟩
def S7 (n : {n : Nat // 1 ≤ n ∧ n ≤ 11}) : SL := ⟨[(1, .ptr 64 0), (2, .int .i64 0), (3, .int .i64 n.1)], [(64, .cells (at7 n.1).cs)]⟩
def I7 : Nat → LI := fun _ => ⟨{n : Nat // 1 ≤ n ∧ n ≤ 11}, S7, fun n => 11 - n.1, fun _ _ => True⟩
theorem I7R (n : Nat) (i j) : (I7 n).R i j = True := rfl
theorem I7S (n : Nat) : (I7 n).S = S7 := rfl
theorem I7M (n : Nat) (i) : (I7 n).μ i = 11 - i.1 := rfl
theorem cell_av (t s : Tm) (h : t = s) : [AV.bool t.r, .int .i64 t.i, .int .i64 t.l, .int .i64 t.e, .int .i64 t.a, .bool t.w, .int .i64 t.x] = [AV.bool s.r, .int .i64 s.i, .int .i64 s.l, .int .i64 s.e, .int .i64 s.a, .bool s.w, .int .i64 s.x] := by rw [h]
theorem at7_step : ∀ n : Nat, n < 11 → 1 ≤ n → stepT (at7 n) = at7 (n + 1) ∧ stepW (at7 n) = decide (n = 7) ∧ stepX (at7 n) = decide (n = 10) := by decide +kernel
theorem at7_end : (!(at7 11).r && decide ((at7 11).x = 1)) = true := by decide +kernel
theorem walk7 {Phi : Nat → Option Ctr} (P8 : Phi 8 = some C8) (P9 : Phi 9 = some C9) (P10 : Phi 10 = some C10) : evC Phi I7 rc7 ⟨initS [], initM false []⟩ (kRet rv7 (.bool true) false []) := by
  simp only [rc7, rv7, P8, P9, P10, I7S, I7M, I7R, S7, Tm.cs, gvB_true, beqO_some, killO_none, killO_some, consO_some, eqaB_t, eqaB_f, andO_some, mmO_some, iasB_true, iaA_some, ldV_some, ldB_cells, valB_true, stC_true, stB_cells, bxO_some, blO_some, blS_some, faK_some, faC_some, fsK_some, fsC_some, clO_some, clQ_true, clP_some, clS_cells, clT_some, clU_true, condK_bool, kEndB_t, kEndB_f, kBlkB_t, kBlkB_f, rtO_some, rtM_cells, rvP_ptr, rvB_cells, gv_int, ungd_int, gv_bool, ungd_bool, gv_str, ungd_str, gv_agg, ungd_agg, gv_tup, ungd_tup, gv_lst, ungd_lst, gv_ep, ungd_ep, gv_ptr, ungd_ptr, gv_ap, ungd_ap, gv_vw, ungd_vw, gv_bp, ungd_bp, gv_fr, ungd_fr, gv_fn, ungd_fn, gv_nil, ungd_nil, gv_junk, ungd_junk, ungd_gd, gv_gd, kill3_int, kill0_int, kill1_int, kill3_bool, kill0_bool, kill1_bool, kill3_str, kill0_str, kill1_str, kill3_agg, kill1_agg, kill3_tup, kill3_lst, kill0_lst, kill1_lst, kill3_ep, kill0_ep, kill1_ep, kill3_ptr, kill0_ptr, kill3_ap, kill0_ap, kill3_vw, kill0_vw, kill3_bp, kill0_bp, kill3_fr, kill0_fr, kill1_fr, kill3_fn, kill0_fn, kill1_fn, kill3_nil, kill0_nil, kill1_nil, kill3_junk, kill0_junk, kill1_junk, leA_int, leV1_int, leA_bool, leV1_bool, leA_str, leV1_str, leA_agg, leA_tup, leV1_tup, leA_lst, leV1_lst, leA_ep, leV1_ep, leA_ptr, leV1_ptr, leA_ap, leV1_ap, leA_vw, leV1_vw, leA_bp, leV1_bp, leA_fr, leV1_fr, leA_fn, leV1_fn, leA_junk, leV1_junk, leA_nil, leA_nilnil, leV1_agg, leV1_nil, leAs_nil, leAs_cons, leVs_nil, leVs_cons, resV_one, resV_two, evOps_nil, evOps_cons, goOp_some, evG_no, evG_yes, gG_some, pathG_bool, pathG_gd, guardR_q, guardR_u, guardU_some, guardL_nil, guardL_cons, pathP_nil, pathP_cons, pathB_nil, pathB_cons, boolOf_bool, boolOf_gd, askL_nil, askL_cons, knowL_nil, knowL_cons, put_q, put_u, put_n, put_s, upd_at, updM_at, killS_at, ungdS_at, killM_at, killB_cells, kill3_gd', av_t, av_c, ar_t, ar_c, avs_nil, avs_cons, bind1_some', bind2_some', ev_mov, ev_not, ev_neg, ev_conv, ev_extract, ev_nilchk, un1_mov, un1_not, un1_neg, un1_conv, un1_nilchk, un1_extract, toR_some', ev_pick, pick3_some, pickV_bool, ev_arith, arith_add, arith_sub, arith_mul, arith_and, arith_or, arith_xor, arith_andNot, arith_quo, arith_rem, ev_cmp, cmp2_some, cmp_eql, cmp_neq, cmp_lss, cmp_leq, cmp_gtr, cmp_geq, cmp_eqlB, cmp_neqB, cmp_eqlS, cmp_neqS, ev_eqa, eqa2_some, eqaR_agg, eqC_nil, eqC_int, eqC_bool, eqC_str, ev_len, len_lst, len_nil, len_str, ev_minmax, mm_nil, mm_max, mm_min, ev_faddr, faddr_ptr, faddr_ep, ev_iaddrS, iaddrS_lst, ev_iaddrA, iaddrA_ptr, ev_load, load_ptr, load_ep, valOf_agg, valOf_one, ev_store, store_ptr, setC_nil, setC_cons, cells_agg, cells_int, cells_bool, cells_str, cells_lst, cells_ep, cells_ptr, cells_ap, cells_vw, cells_bp, cells_fr, cells_fn, cells_nil, ev_alloc, ev_box, boxR_eq, ev_build, ev_bslice, fillA_nil, fillA_cons, fillS_nil, fillS_cons, ev_call, call_pure, call_state, c0_int, c1_int, c2_int, c0_bool, c1_bool, c2_bool, c0_str, c1_str, c2_str, c0_lst, c1_lst, c2_lst, c0_fn, c1_fn, c2_fn, c0_nil, c1_nil, c2_nil, c1_agg, c2_agg, c2_tup, evC_skip, evC_region, evC_seq, evC_cond, evC_block, evC_loop, evC_exit, evC_ret, kEnd_at, hasG_nil, hasG_no, hasG_yes, kSeq_n, kSeq_e, kSeq_r, kBlk_n, kBlk_r, kBlk_e, kLoop_n, kLoop_e, kLoop_r, kRet_r, kRet_n, retOK_f, retOK_t, retL_nil, retL_cons, retV_t, retV_c, initM_f, initM_t, initS_at, lookL_nil, lookL_cons, lookM_nil, lookM_cons, SL_st, SL_ge, leL_nil, leL_cons, leM_nil, leM_cons, reduceIte, Nat.reduceEqDiff, Nat.reduceMul, Nat.reduceAdd, Nat.reduceBEq, Option.getD_some, Option.getD_none, List.length_cons, List.length_nil, List.getElem?_cons_succ, List.getElem?_cons_zero, List.drop_zero, List.drop_succ_cons, List.take_succ_cons, List.take_zero, List.map_cons, List.map_nil, List.all_cons, List.all_nil, List.contains_cons, List.contains_nil, List.nil_append, List.cons_append, List.set_cons_zero, List.set_cons_succ, List.replicate_succ, List.replicate_zero, List.getD_cons_zero, List.getD_cons_succ, beq_self_eq_true, Bool.and_self, Bool.or_false, Bool.true_or, Bool.or_true, Bool.and_true, Bool.true_and, Bool.cond_true_left, Bool.cond_false_right, and_true, true_and, true_imp_iff, and_self, imp_self, implies_true, Nat.reduceLeDiff, decide_true, decide_false, if_true, if_false, Nat.zero_mul, Nat.add_zero, Nat.zero_add, Int.toNat_natCast, Int.reduceToNat, Int.reduceLE, Int.reduceLT, Bool.not_true, Bool.not_false, Bool.false_eq_true, Bool.true_eq_false, false_imp_iff, List.length_map, getE_u8, u8s_len, C7, C8, C9, C10, C11, C16, Tm.av, Tm.eta]
  refine ⟨⟨1, by decide⟩, ?_, ?_⟩
  · refine ⟨⟨AV.int_inj' (by decide +kernel), rfl⟩, ?_⟩
    exact congrArg some (congrArg Blk.cells (cell_av _ _ (by decide +kernel)))
  · rintro ⟨n, hn⟩
    dsimp only
    refine ⟨fun h => ?_, fun h => ?_⟩
    · have hb : n < 11 := by have := of_decide_eq_true h; omega
      obtain ⟨e1, e2, e3⟩ := at7_step n hb hn.1
      refine ⟨fun h2 => ?_, fun _ => ⟨⟨n + 1, by omega⟩, ⟨?_, ?_⟩, ?_⟩⟩
      · rw [e2, e3] at h2
        have a1 : decide ((n : Int) = 7) = decide (n = 7) := by congr 1; exact propext ⟨by omega, by omega⟩
        have a2 : decide ((n : Int) = 10) = decide (n = 10) := by congr 1; exact propext ⟨by omega, by omega⟩
        rw [a1, a2] at h2; simp at h2
      · rw [wr_in _ (by omega) (by omega)]; rfl
      · exact congrArg some (congrArg Blk.cells (cell_av _ _ e1))
      · show 11 - (n + 1) < 11 - n
        omega
    · have hb : n = 11 := by have := of_decide_eq_false h; omega
      subst hb; exact AV.bool_inj' at7_end
end Go.Proofs.Ytkpjkembnkadaaa
