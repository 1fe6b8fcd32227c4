/- A part of the proof: symbolic evaluation of the program's functions, proved sound against the model; no condition. -/
import Derived.Test.YtofldhooanikcaaEvFB
namespace Go.Proofs.Ytofldhooanikcaa
open Go Go.RowKit Go.Ev
set_option linter.unusedSimpArgs false
set_option linter.unusedVariables false
set_option maxRecDepth 20000
theorem litG (v : Int) (h0 : 0 ≤ v) (h1 : v < 5) : 0 ≤ ([0, 20, 50, 1000, 10000] : List Int).getD v.toNat 0 ∧ ([0, 20, 50, 1000, 10000] : List Int).getD v.toNat 0 ≤ 10000 := by
  have hv : v = 0 ∨ v = 1 ∨ v = 2 ∨ v = 3 ∨ v = 4 := by omega
  rcases hv with rfl | rfl | rfl | rfl | rfl <;> decide
theorem litI (v : Int) (h0 : 0 ≤ v) (h1 : v < 5) : 0 ≤ ([0, 1, 5, 100, 10000] : List Int).getD v.toNat 0 ∧ ([0, 1, 5, 100, 10000] : List Int).getD v.toNat 0 ≤ 10000 := by
  have hv : v = 0 ∨ v = 1 ∨ v = 2 ∨ v = 3 ∨ v = 4 := by omega
  rcases hv with rfl | rfl | rfl | rfl | rfl <;> decide
theorem litL (v : Int) (h0 : 0 ≤ v) (h1 : v < 3) : 0 ≤ ([0, 200, 1000] : List Int).getD v.toNat 0 ∧ ([0, 200, 1000] : List Int).getD v.toNat 0 ≤ 1000 := by
  have hv : v = 0 ∨ v = 1 ∨ v = 2 := by omega
  rcases hv with rfl | rfl | rfl <;> decide
theorem litM (v : Int) (h0 : 0 ≤ v) (h1 : v < 3) : 200 ≤ ([1000, 600, 200] : List Int).getD v.toNat 0 ∧ ([1000, 600, 200] : List Int).getD v.toNat 0 ≤ 1000 := by
  have hv : v = 0 ∨ v = 1 ∨ v = 2 := by omega
  rcases hv with rfl | rfl | rfl <;> decide
theorem litS (v : Int) (h0 : 0 ≤ v) (h1 : v < 4) : 0 ≤ ([1, 10, 50, 1000] : List Int).getD v.toNat 0 ∧ ([1, 10, 50, 1000] : List Int).getD v.toNat 0 ≤ 1001 := by
  have hv : v = 0 ∨ v = 1 ∨ v = 2 ∨ v = 3 := by omega
  rcases hv with rfl | rfl | rfl | rfl <;> decide
theorem litT (v : Int) (h0 : 0 ≤ v) (h1 : v < 2) : 0 ≤ ([0, 1001] : List Int).getD v.toNat 0 ∧ ([0, 1001] : List Int).getD v.toNat 0 ≤ 1001 := by
  have hv : v = 0 ∨ v = 1 := by omega
  rcases hv with rfl | rfl <;> decide
theorem walk24 {Phi : Nat → Option Ctr} (L : List Int) (a : Int) : evC Phi (noI) rc24 ⟨initS (.ptr 0 0 :: []), initM true [.lst [.int .u8 0] (u8s L), .int .i64 a]⟩ (kRet rv24 (.bool (decide (a < (L.length : Int)))) true [.lst [.int .u8 0] (u8s L), .int .i64 a]) := by
  simp only [rc24, initM_t, rv24, evC_seq, evC_region, eo_mov, evG_no, Option.getD_some, ev_mov, av_c, gv_bool, bind1_some', un1_mov, goOp_some, put_q, evOps_nil, kEnd_at, hasG_no, hasG_nil, kEndB_f, kSeq_n, evC_draw, preK_some, needD_mov, preB_f, needD_nilchk, needD_faddr, needD_load, needD_len, needD_cmp, preK_nil, evD_cons, av_t, upd_at, Nat.reduceEqDiff, initS_at, List.getD_cons_zero, if_false, gv_ptr, evDk_some, newOK_none, Nat.zero_add, ev_nilchk, List.getD_cons_succ, if_true, un1_nilchk, Nat.reduceAdd, ev_faddr, faddr_ptr, ev_load, load_ptr, updM_at, ldB_cells, valOf_one, List.getElem?_cons_succ, List.getElem?_cons_zero, ldV_some, Nat.add_zero, ev_len, gv_lst, len_lst, u8s_len, ev_cmp, gv_int, cmp2_some, cmp_lss, toR_some', evD_nil, evC_ret, kRet_r, retOK_eq, retL_cons, retV_t, retL_nil, consO_some, lkR_one, lk1_bool, lkT_t, lkB_cells, lkC_cons, lkC0_lst, lkC0_int, lkC_nil, List.nil_append, applyL_nil, retOK_t, rtO_some, resV_one, leV1_bool, rtM_cells, leAs_cons, leA_lst, leA_int, leAs_nil, and_self, knowD_cons, knowD_nil, knowL_nil, knowL_cons, implies_true, pairD_cons, pairOK_eq, newMen_none, List.contains_cons, Nat.reduceBEq, beq_self_eq_true, List.contains_nil, Bool.or_false, Bool.or_true, pairB_t, pairD_nil, askL_nil, pairB_f, chkR_eq, pslots_int, optN_some, disjN_nil, Bool.and_self, List.map_nil, newI_none, pslots_ptr, pslots_lst, List.cons_append]
theorem walk14 {Phi : Nat → Option Ctr} (P24 : Phi 24 = some CLf) (L : List Int) (a n : Int) (ha : 0 ≤ a) : evC Phi (noI) rc14 ⟨initS (.ptr 0 0 :: [.int .i64 n]), initM true [.lst [.int .u8 0] (u8s L), .int .i64 a]⟩ (kRet rv14 (.int .i64 (nxV L a n)) true [.lst [.int .u8 0] (u8s L), .int .i64 (nxA L a n)]) := by
  simp only [rc14, initM_t, rv14, evC_seq, evC_region, eo_mov, evG_no, Option.getD_some, ev_mov, av_c, gv_int, bind1_some', un1_mov, goOp_some, put_q, evOps_nil, kEnd_at, hasG_no, hasG_nil, kEndB_f, kSeq_n, av_t, upd_at, Nat.reduceEqDiff, initS_at, List.getD_cons_zero, if_false, gv_ptr, eo_call, P24, CLf, evCl_mk, ev_call, avs_cons, List.getD_cons_succ, if_true, avs_nil, consO_some, clO_some, call_state, updM_at, callC_cells, lends_nil, callB_some, List.all_cons, c0_lst, c0_int, List.all_nil, Bool.and_self, decU_u8s, and_self, callD_t, callS_some, c2_bool, flat2_bool, flat0_lst, flat0_int, Bool.and_true, Bool.true_and, backOK_nil, clU_t, put_u, eo_not, ev_not, gv_bool, un1_not, evG_yes, pathG_bool, gG_some, guardR_q, guardL_nil, eo_cmp, ev_cmp, gv_gd, List.contains_cons, List.contains_nil, Bool.or_false, beq_self_eq_true, gvB_true, cmp2_some, cmp_lss, toR_some', eo_pick, ev_pick, List.nil_append, pick3_some, pickV_bool, Bool.cond_true_left, hasG_yes, kEndB_t, evC_cond, evC_ret, kSeq_r, kRet_r, retOK_eq, retL_cons, retV_t, ungdS_at, ungd_int, retL_nil, lkR_one, lk1_int, lkT_t, lkB_cells, lkC_cons, lkC0_lst, Nat.zero_add, lkC0_int, Nat.reduceAdd, lkC_nil, applyL_nil, retOK_t, rtO_some, resV_one, leV1_int, rtM_cells, leAs_cons, leA_lst, leA_int, leAs_nil, and_true, true_and, knowL_nil, askL_nil, evC_skip, evC_draw, preK_some, needD_mov, preB_f, needD_nilchk, needD_faddr, needD_load, needD_iaddrS, needD_conv, preK_nil, evD_cons, ungd_ptr, evDk_some, newOK_none, ev_nilchk, un1_nilchk, ev_faddr, faddr_ptr, Nat.add_zero, ev_load, load_ptr, ldB_cells, valOf_one, List.getElem?_cons_zero, ldV_some, List.getElem?_cons_succ, ev_iaddrS, gv_lst, bind2_some', iaddrS_lst, List.length_cons, List.length_nil, iasB_true, u8s_len, gv_ep, load_ep, getE_u8, ev_conv, un1_conv, evD_nil, eo_nilchk, eo_faddr, eo_load, eo_arith, ev_arith, arith_add, eo_store, ar_t, vwsT_ptr, frzL_nil, goF_eq, Option.getD_none, ev_store, store_ptr, cells_int, stB_cells, Nat.reduceLeDiff, decide_true, stC_true, setC_cons, List.set_cons_succ, List.set_cons_zero, setC_nil, put_s, cmp_gtr, eo_call_g, guardR_u, pathB_cons, boolOf_bool, beqO_some, pathB_nil, mergeU_eq1, mgC_cells, mergeL_cons, mergeA_lst, Bool.cond_self, mergeA_int, mergeL_nil, mgU_some, guardU_some, guardL_cons, pathP_cons, pathP_nil, implies_true, Bool.cond_false_right, needD_shl, needD_arith, ev_shl, shl_int, bits_i64, shQ_t, arith_or, arith_rem, askL_cons, knowD_cons, knowD_nil, knowL_cons, pairD_cons, pairOK_eq, newMen_none, Nat.reduceBEq, Bool.or_true, pairB_t, pairD_nil, pairB_f, chkR_eq, pslots_int, optN_some, disjN_nil, List.map_nil, newI_none, pslots_ep, pslots_lst, List.cons_append, pslots_ptr, ungd_bool, condK_bool]
  refine ⟨fun h => ?_, fun h => ?_⟩
  · have e : nx1 L a n = false := by
      cases hh : nx1 L a n with
      | false => rfl
      | true => exfalso; simp [nx1] at hh h; omega
    simp [nxV, nxA, e]
  · have e : nx1 L a n = true := by simp at h; simp [nx1]; omega
    have h0 : a < (L.length : Int) ∧ 1 ≤ n := by simp at h; omega
    refine ⟨⟨ha, h0.1⟩, fun hl => ?_⟩
    rw [wr_in (a + 1) (by omega) (by omega)]
    refine ⟨fun h2 => ?_, fun h2 => ?_⟩
    · have e2 : nx2 L a n = true := h2
      have h3 : a + 1 < (L.length : Int) := by simp at h2; omega
      refine ⟨⟨by omega, h3⟩, fun _ => ⟨by omega, AV.int_inj' ?_, AV.int_inj' ?_⟩⟩
      · simp only [nxV, nxX, e, e2, if_true, W]
      · simp only [nxA, e, e2, if_true]
        rw [wr_in _ (by omega) (by omega)]; omega
    · have e2 : nx2 L a n = false := h2
      exact ⟨by omega, AV.int_inj' (by simp only [nxV, nxX, e, e2, if_true, W]; rfl), AV.int_inj' (by simp only [nxA, e, e2, if_true]; rfl)⟩
theorem walk10 {Phi : Nat → Option Ctr} (L : List Int) (n : Int) (hn : 0 ≤ n) : evC Phi (noI) rc10 ⟨initS [.lst [.int .u8 0] (u8s L), .int .i64 n], initM false []⟩ (kRetX rv10 false (fun _ : Unit => (True, .fp 0 [.lst [.int .u8 0] (u8s (L.take n.toNat)), .int .i64 0], []))) := by
  simp only [rc10, initM_f, rv10, evC_seq, evC_region, eo_mov, evG_no, Option.getD_some, ev_mov, av_c, gv_junk, bind1_some', un1_mov, goOp_some, put_q, evOps_nil, kEnd_at, hasG_no, hasG_nil, kEndB_f, kSeq_n, av_t, upd_at, Nat.reduceEqDiff, initS_at, List.getD_cons_zero, if_false, gv_lst, eo_len, ev_len, List.getD_cons_succ, if_true, len_lst, u8s_len, gv_int, eo_minmax, ev_minmax, avs_cons, avs_nil, consO_some, mmO_some, mm_min, mm_nil, toR_some', eo_slice, ev_slice, boundA_none, boundA_some, optS_some, sliceO_some, slice_lst, loOf_none, hiOf_int, List.length_cons, List.length_nil, Nat.zero_add, beq_self_eq_true, slL_some, Int.reduceLE, true_and, Int.reduceToNat, List.drop_zero, u8s_take, eo_build, ev_build, fillA_cons, faK_some, cells_lst, faC_some, Nat.reduceAdd, Nat.reduceLeDiff, setC_cons, List.set_cons_zero, setC_nil, fillA_nil, blO_some, eo_box, ev_box, gv_agg, boxR_eq, cells_agg, bxO_some, Nat.reduceMul, put_n, killB_cells, List.map_cons, kill0_lst, kill0_int, List.map_nil, killS_at, gv_ptr, evC_ret, kRetX_r, retXG_eq, retX_eq, retL_cons, retV_t, kill3_junk, retL_nil, lkR_one, lk1_ptr, lkT_f, List.nil_append, applyL_nil, retX0_eq, resXO_some, resX_one, leX1_fp, updM_at, killM_at, killO_none, leFC_cells, leAs_cons, leA_lst, leA_int, leAs_nil, and_self, and_true, pqR_one, pq1_fp, pqK_some, pqK_nil, nodupN_cons, List.contains_nil, Bool.not_false, nodupN_nil, Bool.and_self, List.all_cons, decide_true, List.all_nil, frs2_fp, idsOK_eq, Nat.reduceLT, wfRes_one, wfX1_fp, c0_lst, c0_int, resXT_f, knowL_nil, askL_nil, askL_cons, knowL_cons]
  intro hl
  refine ⟨⟨by omega, by omega⟩, (), ?_⟩
  have : (min (L.length : Int) n).toNat - 0 = min L.length n.toNat := by omega
  rw [this, Nat.min_comm, ← List.take_eq_take_min]
theorem walk12 {Phi : Nat → Option Ctr} (P14 : Phi 14 = some CNx) (L : List Int) (a : Int) (ha : 0 ≤ a) (hL : Okb L) (z : Zn) (hz : GZ z) : evC Phi (noI) rc12 ⟨initS (.ptr 0 0 :: [z.av]), initM true [.lst [.int .u8 0] (u8s L), .int .i64 a]⟩ (kRetX rv12 true (fun q : Sp × Int => (GS q.1 ∧ 0 ≤ q.2, q.1.av, [.lst [.int .u8 0] (u8s L), .int .i64 q.2]))) := by
  simp only [rc12, Zn.av, initM_t, rv12, Sp.av, evC_seq, evC_region, eo_box, evG_no, Option.getD_some, ev_box, av_t, initS_at, List.getD_cons_succ, List.getD_cons_zero, gv_agg, bind1_some', boxR_eq, cells_agg, List.length_cons, List.length_nil, Nat.zero_add, Nat.reduceAdd, if_true, bxO_some, Nat.reduceMul, goOp_some, put_n, killB_cells, List.map_cons, kill0_lst, kill0_int, List.map_nil, eo_alloc, ev_alloc, evOps_nil, kEnd_at, hasG_no, hasG_nil, kEndB_f, kSeq_n, eo_faddr, ev_faddr, upd_at, Nat.reduceEqDiff, killS_at, kill3_ptr, if_false, gv_ptr, faddr_ptr, put_q, eo_load, ev_load, load_ptr, updM_at, killM_at, killO_none, killO_some, ldB_cells, valOf_one, List.getElem?_cons_succ, List.getElem?_cons_zero, ldV_some, eo_build, ev_build, fillA_cons, gv_int, faK_some, cells_int, faC_some, Nat.reduceLeDiff, setC_cons, List.set_cons_zero, setC_nil, fillA_nil, blO_some, eo_store, ar_t, kill3_agg, vwsT_ptr, frzL_nil, goF_eq, Option.getD_none, ev_store, bind2_some', store_ptr, stB_cells, decide_true, stC_true, List.set_cons_succ, put_s, eo_cmp, ev_cmp, cmp2_some, cmp_gtr, toR_some', evC_cond, evC_draw, preK_some, needD_faddr, preB_f, needD_load, needD_mov, needD_arith, needD_call, preK_none, preK_nil, evD_cons, Nat.add_zero, evDk_some, newOK_none, ev_mov, un1_mov, ev_arith, arith_sub, av_c, arith_add, ev_call, P14, CNx, avs_cons, avs_nil, consO_some, clO_some, call_state, callC_cells, lends_cons, lend1_int, lends_nil, consL_some', List.nil_append, callB_some, List.all_cons, c0_lst, c0_int, List.all_nil, Bool.and_self, decU_u8s, and_self, true_and, callD_t, callS_some, c2_int, flat2_int, flat0_lst, flat0_int, Bool.and_true, Bool.true_and, backOK_nil, clU_t, put_u, evD_nil, arith_mul, eo_mov, eo_call, evCl_mk, cmp_eql, eo_bsliceO, vwsG_cons, ar_c, vws1_int, vwsG_nil, ev_bsliceO, List.replicate_succ, List.replicate_zero, fillS_cons, fsK_some, fsC_some, Nat.reduceLT, fillS_nil, blO2_some, killB_buf, eo_iaddrS, ev_iaddrS, gv_vw, iaddrS_vw, iasV_buf, beq_self_eq_true, iasW_t, gv_bp, load_bp, ldP_buf, getE_l2, ldQ_t, valOf_agg, valB_true, List.drop_zero, List.take_succ_cons, List.take_zero, evC_ret, kRetX_r, retXG_eq, retX_eq, retL_cons, retV_c, rvP_ptr, rvB_cells, retL_nil, lkR_one, lk1_agg, lkAs_cons, lk0_int, lkAs_nil, lkT_t, lkB_cells, lkC_cons, lkC0_lst, lkC0_int, lkC_nil, applyL_nil, retX0_eq, resXO_some, resX_one, leX1_agg, leXs_cons, leX0_int, leA_int, leXs_nil, and_true, pqR_one, pq1_agg, pqL_cons, pq0_int, pqL_nil, pqK_nil, nodupN_nil, frs2_agg, frsL_cons, frs0_int, frsL_nil, idsOK_eq, wfRes_one, wfX1_agg, wfX0_int, resXT_t, leAs_cons, leA_lst, leAs_nil, knowL_nil, askL_nil, askL_cons, knowL_cons, true_imp_iff, evC_skip, condK_bool, knowD_cons, knowD_nil, pairD_cons, pairOK_eq, newMen_none, List.contains_cons, Nat.reduceBEq, List.contains_nil, Bool.or_false, Bool.or_true, pairB_t, pairD_nil, pairB_f, chkR_eq, pslots_int, optN_some, disjN_nil, newI_none, List.cons_append, disjN_cons, Bool.not_false, pslots_ptr]
  obtain ⟨h1, h2, h3⟩ : (0 ≤ z.least ∧ z.least ≤ 1000) ∧ (200 ≤ z.most ∧ z.most ≤ 1000) ∧ True := ⟨hz.l, hz.m, trivial⟩
  have e1 : IntKind.i64.wrap (z.most - z.least) = z.most - z.least := wr_in _ (by omega) (by omega)
  have e2 : IntKind.i64.wrap (z.most - z.least + 1) = z.most - z.least + 1 := wr_in _ (by omega) (by omega)
  have pick : ∀ v : Int, 0 ≤ v → v < 2 → -1 ≤ ([-1, 1099511627776] : List Int).getD v.toNat 0 ∧ ([-1, 1099511627776] : List Int).getD v.toNat 0 ≤ 1099511627776 := by
    intro v h0 h1
    have hv : v = 0 ∨ v = 1 := by omega
    rcases hv with rfl | rfl <;> decide
  rw [e1, e2]
  refine ⟨fun hc => ?_, fun hc => ?_⟩
  · have hc := of_decide_eq_true hc
    have a1 := nxA_nn (L := L) ha (z.most - z.least + 1)
    have b1 := nx_bd hL a (n := z.most - z.least + 1) (by omega)
    generalize nxA L a (z.most - z.least + 1) = A1 at *
    generalize nxV L a (z.most - z.least + 1) = V1 at *
    have a2 := nxA_nn (L := L) a1 1000
    have b2 := nx_bd hL A1 (n := 1000) (by omega)
    generalize nxA L A1 1000 = A2 at *
    generalize nxV L A1 1000 = V2 at *
    have a3 := nxA_nn (L := L) a2 20
    have b4 := nx_bd hL (nxA L A2 20) (n := 2) (by omega)
    have e3 : IntKind.i64.wrap (z.least + V1) = z.least + V1 := wr_in _ (by omega) (by omega)
    have hp : 0 ≤ V2 * (z.most - z.least) ∧ V2 * (z.most - z.least) ≤ 1000 * 1000 := ⟨Int.mul_nonneg b2.1 (by omega), Int.mul_le_mul (by omega) (by omega) (by omega) (by omega)⟩
    have e4 : IntKind.i64.wrap (V2 * (z.most - z.least)) = V2 * (z.most - z.least) := wr_in _ (by omega) (by omega)
    rw [e3, e4]
    refine ⟨ha, a1, a2, fun _ => ⟨a3, ⟨b4.1, b4.2⟩, by omega, ⟨(⟨z.least + V1, ([-1, 1099511627776] : List Int).getD (nxV L (nxA L A2 20) 2).toNat 0⟩, nxA L (nxA L A2 20) 2), ⟨⟨by dsimp only; omega, ?_⟩, nxA_nn a3 _⟩, ⟨rfl, rfl⟩, rfl⟩⟩, fun _ => ⟨(⟨z.least + V1, V2 * (z.most - z.least)⟩, nxA L A2 20), ⟨⟨by dsimp only; omega, ?_⟩, a3⟩, ⟨rfl, rfl⟩, rfl⟩⟩
    · exact pick _ b4.1 b4.2
    · dsimp only
      omega
  · have a3 := nxA_nn (L := L) ha 20
    have b4 := nx_bd hL (nxA L a 20) (n := 2) (by omega)
    refine ⟨ha, fun _ => ⟨a3, ⟨b4.1, b4.2⟩, by omega, ⟨(⟨z.least, ([-1, 1099511627776] : List Int).getD (nxV L (nxA L a 20) 2).toNat 0⟩, nxA L (nxA L a 20) 2), ⟨⟨by dsimp only; omega, pick _ b4.1 b4.2⟩, nxA_nn a3 _⟩, ⟨rfl, rfl⟩, rfl⟩⟩, fun _ => ⟨(⟨z.least, 0⟩, nxA L a 20), ⟨⟨by dsimp only; omega, (by decide : -1 ≤ (0 : Int) ∧ (0 : Int) ≤ 1099511627776)⟩, a3⟩, ⟨rfl, rfl⟩, rfl⟩⟩
theorem walk13 {Phi : Nat → Option Ctr} (P14 : Phi 14 = some CNx) (L : List Int) (a : Int) (ha : 0 ≤ a) (hL : Okb L) (z : Zn) (hz : GZ z) : evC Phi (I13 L z) rc13 ⟨initS (.ptr 0 0 :: [z.av]), initM true [.lst [.int .u8 0] (u8s L), .int .i64 a]⟩ (kRetX rv13 true (fun q : List Int × List Bool × Int => (GR z q.1 q.2.1 ∧ 0 ≤ q.2.2, .tup [.fr 0 2 [.int .i64 0] (i64s q.1), .fr 1 4 [.bool false] (bls q.2.1)], [.lst [.int .u8 0] (u8s L), .int .i64 q.2.2]))) := by
  simp only [rc13, Zn.av, initM_t, rv13, evC_seq, evC_region, eo_box, evG_no, Option.getD_some, ev_box, av_t, initS_at, List.getD_cons_succ, List.getD_cons_zero, gv_agg, bind1_some', boxR_eq, cells_agg, List.length_cons, List.length_nil, Nat.zero_add, Nat.reduceAdd, if_true, bxO_some, Nat.reduceMul, goOp_some, put_n, killB_cells, List.map_cons, kill0_lst, kill0_int, List.map_nil, eo_mov, ev_mov, av_c, gv_nil, un1_mov, put_q, evOps_nil, kEnd_at, hasG_no, hasG_nil, kEndB_f, kSeq_n, eo_faddr, ev_faddr, upd_at, Nat.reduceEqDiff, killS_at, if_false, gv_ptr, faddr_ptr, Nat.add_zero, eo_load, ev_load, load_ptr, updM_at, killM_at, killO_none, ldB_cells, valOf_one, List.getElem?_cons_zero, ldV_some, eo_len, ev_len, gv_lst, len_lst, u8s_len, gv_int, evC_block, evC_loop, I13S, S13, Zn.cs, SL_ge, lkL_cons, kill3_ptr, lkS_ptr, lkS_nil_vw, lookM_cons, lookM_nil, nlK_buf, lkS_int, lkL_nil, List.nil_append, List.cons_append, lkM_cons, killO_some, lkB_cells, lkC_cons, lkC0_lst, lkC0_int, lkC_nil, lkB_buf, lkM_nil, applyL_nls, nlV_nil, Nat.reduceLeDiff, decide_true, Nat.reduceLT, Bool.and_self, nlP_t, kill3_nil, applyL_nil, SL_ge0, leL_cons, leV1_ptr, kill3_vw, leV1_vw, kill3_int, leV1_int, leL_nil, and_true, true_and, leM_cons, leB_cells, leAs_cons, leA_lst, leA_int, leAs_nil, and_self, killB_buf, leB_buf, leM_nil, I13R, SL_st, eo_cmp, ev_cmp, lookL_cons, lookL_nil, cmp2_some, cmp_lss, toR_some', evC_cond, evC_skip, evC_draw, preK_some, needD_faddr, preB_f, needD_load, needD_mov, needD_call, needD_arith, needD_bslice, needD_iaddrS, preK_nil, evD_cons, evDk_some, newOK_none, List.getElem?_cons_succ, ev_call, P14, CNx, avs_cons, avs_nil, consO_some, clO_some, call_state, callC_cells, lends_cons, lend1_int, lends_nil, consL_some', callB_some, List.all_cons, c0_lst, c0_int, List.all_nil, decU_u8s, callD_t, callS_some, c2_int, flat2_int, flat0_lst, flat0_int, Bool.and_true, Bool.true_and, backOK_nil, clU_t, put_u, ev_arith, bind2_some', arith_sub, ev_bslice, List.replicate_succ, List.replicate_zero, fillS_cons, fsK_some, cells_int, fsC_some, List.set_cons_zero, List.set_cons_succ, fillS_nil, blS_some, ev_iaddrS, iaddrS_lst, beq_self_eq_true, iasB_true, gv_ep, load_ep, getE_l5, arith_mul, arith_add, evD_nil, gv_vw, eo_bsliceO, vwsG_cons, ar_t, vws1_int, vwsG_nil, frzL_nil, goF_eq, ev_bsliceO, blO2_some, eo_append, ev_append, kill3_junk, appR_vw, ysOf_vw, ysV_buf, appV_buf, appK_some, i64s_len, eo_call, evCl_mk, vws1_bool, gv_bool, cells_bool, c0_bool, bls_len, kBlk_n, eo_arith, kLoop_n, lkS_vw_vw, renK_t, knowL_nil, askL_nil, askL_cons, knowD_cons, knowD_nil, knowL_cons, true_imp_iff, pairD_cons, pairOK_eq, newMen_none, List.contains_cons, Nat.reduceBEq, List.contains_nil, Bool.or_false, Bool.or_true, pairB_t, pairD_nil, pairB_f, chkR_eq, pslots_int, optN_some, disjN_nil, newI_none, pslots_ptr, pslots_ep, pslots_lst, disjN_cons, Bool.not_false, evC_exit, kSeq_e, kLoop_e, kBlk_e, kBlkB_t, cmp_eql, ar_c, evC_ret, kRetX_r, retXG_eq, retX_eq, retL_cons, retV_t, retL_nil, lkR_two, lkVs_cons, lk1_vw_fr, lkVs_nil, lkT_t, retX0_eq, resXO_some, resX_two, leXV_cons, leX1_fr_vw, leFB_buf, leXV_nil, pqR_two, pqV_cons, pq1_fr_vw, pqV_nil, pqK_some, pqK_nil, nodupN_cons, nodupN_nil, frs2_tup, frsV_cons, frs1_fr, frsV_nil, idsOK_eq, wfRes_two, wfX2_tup, wfX1_fr, resXT_t, condK_bool]
  intro _
  have h8 := hz.s8
  have ht := hz.t
  refine ⟨⟨a, 0, [], [], ha, by omega, rfl, rfl, by simp⟩, ⟨rfl, rfl, rfl, rfl⟩, ?_⟩
  rintro ⟨at', i, rs, ks, ha', hi, hr, hk, hb⟩
  dsimp only
  refine ⟨fun hc => ?_, fun hc => ?_⟩
  · have hc := of_decide_eq_true hc
    have a1 := nxA_nn (L := L) ha' 40
    have b1 := nx_bd hL at' (n := 40) (by omega)
    have b2 := nx_bd hL (nxA L at' 40) (n := 5) (by omega)
    have a2 := nxA_nn (L := L) a1 5
    have hp : ∀ v : Int, 0 ≤ v → v < 5 → 1 ≤ ([1, 999, 1000, 1000000, 100000000000] : List Int).getD v.toNat 0 ∧ ([1, 999, 1000, 1000000, 100000000000] : List Int).getD v.toNat 0 ≤ 100000000000 := by
      intro v h0 h1
      have hv : v = 0 ∨ v = 1 ∨ v = 2 ∨ v = 3 ∨ v = 4 := by omega
      rcases hv with rfl | rfl | rfl | rfl | rfl <;> decide
    have hp2 := hp _ b2.1 b2.2
    refine ⟨ha', a1, ⟨b2.1, b2.2⟩, by omega, by omega, a2, by omega, by omega, ?_⟩
    refine ⟨⟨_, i + 1, _, _, nxA_nn a2 10, by omega, ?_, ?_, ?_⟩, ⟨AV.int_inj' (by rw [wr_in _ (by omega) (by omega)]; rfl), rfl, i64s_app _ _, bls_app _ _⟩, ?_⟩
    · simp [hr]
    · simp [hk]
    · intro x hx
      rcases List.mem_append.1 hx with hx | hx
      · exact hb x hx
      · simp only [List.mem_singleton] at hx
        subst hx
        generalize ([1, 999, 1000, 1000000, 100000000000] : List Int).getD (nxV L (nxA L at' 40) 5).toNat 0 = m at hp2
        generalize nxV L at' 40 = v at b1
        rw [wr_in (v - 20) (by omega) (by omega)]
        have h1 : -20 * 100000000000 ≤ (v - 20) * m := by
          have : (-20) * m ≤ (v - 20) * m := Int.mul_le_mul_of_nonneg_right (by omega) (by omega)
          omega
        have h2 : (v - 20) * m ≤ 20 * 100000000000 := by
          have : (v - 20) * m ≤ 20 * m := Int.mul_le_mul_of_nonneg_right (by omega) (by omega)
          omega
        rw [wr_in ((v - 20) * m) (by omega) (by omega), wr_in _ (by omega) (by omega)]
        omega
    · simp only [I13M]; omega
  · have hc := of_decide_eq_false hc
    have hil : i = z.sens.length := by omega
    have a1 := nxA_nn (L := L) ha' 20
    refine ⟨ha', fun _ => ⟨by omega, by omega, (_, _, _), ⟨⟨?_, ?_, ?_⟩, a1⟩, ⟨i64s_app _ _, rfl⟩, rfl⟩, fun _ => ⟨(rs, ks, nxA L at' 20), ⟨⟨by dsimp only; omega, .inl (by dsimp only; omega), hb⟩, a1⟩, ⟨rfl, rfl⟩, rfl⟩⟩
    · dsimp only; omega
    · right; simp; omega
    · intro x hx
      rcases List.mem_append.1 hx with hx | hx
      · exact hb x hx
      · simp only [List.mem_singleton] at hx
        subst hx; decide
theorem walk11 {Phi : Nat → Option Ctr} (P14 : Phi 14 = some CNx) (L : List Int) (a : Int) (ha : 0 ≤ a) (hL : Okb L) : evC Phi (I11 L) rc11 ⟨initS (.ptr 0 0 :: []), initM true [.lst [.int .u8 0] (u8s L), .int .i64 a]⟩ (kRetX rv11 true (fun q : Zn × Int => (GZ q.1 ∧ 0 ≤ q.2, q.1.av, [.lst [.int .u8 0] (u8s L), .int .i64 q.2]))) := by
  simp only [rc11, initM_t, rv11, Zn.av, evC_seq, evC_region, eo_alloc, evG_no, Option.getD_some, ev_alloc, Nat.reduceMul, Nat.reduceAdd, goOp_some, put_n, killB_cells, List.map_cons, kill0_nil, kill0_int, List.map_nil, evOps_nil, kEnd_at, hasG_no, hasG_nil, kEndB_f, kSeq_n, evC_draw, preK_some, needD_mov, preB_f, needD_call, needD_arith, needD_bslice, needD_iaddrS, needD_load, needD_build, needD_alloc, preB_t, preK_none, preK_nil, evD_cons, ev_mov, av_t, killS_at, upd_at, Nat.reduceEqDiff, initS_at, List.getD_cons_zero, kill3_ptr, if_false, gv_ptr, bind1_some', un1_mov, evDk_some, newOK_none, Nat.zero_add, put_q, ev_call, P14, CNx, avs_cons, List.getD_cons_succ, if_true, av_c, gv_int, avs_nil, consO_some, clO_some, call_state, updM_at, killM_at, killO_some, kill0_lst, callC_cells, lends_cons, lend1_int, lends_nil, consL_some', List.nil_append, callB_some, List.all_cons, c0_lst, c0_int, List.all_nil, Bool.and_self, decU_u8s, and_self, true_and, callD_t, callS_some, c2_int, flat2_int, flat0_lst, flat0_int, Bool.and_true, Bool.true_and, backOK_nil, clU_t, put_u, ev_arith, bind2_some', arith_mul, ev_bslice, List.length_cons, List.length_nil, List.replicate_succ, List.replicate_zero, fillS_cons, fsK_some, cells_int, fsC_some, Nat.reduceLT, List.set_cons_zero, List.set_cons_succ, fillS_nil, blS_some, ev_iaddrS, gv_lst, iaddrS_lst, beq_self_eq_true, iasB_true, Nat.reduceLeDiff, ev_load, gv_ep, load_ep, getE_l5, valOf_one, List.getElem?_cons_zero, ldV_some, getE_l3, getE_l4, ev_build, fillA_cons, faK_some, faC_some, setC_cons, setC_nil, fillA_nil, blO_some, newOK_some, Option.getD_none, ev_store, kill3_agg, gv_agg, store_ptr, cells_agg, killO_none, stB_cells, decide_true, stC_true, put_s, evD_nil, eo_mov, eo_call, evCl_mk, evC_block, evC_loop, I11S, S11, SL_ge, lkL_cons, lkS_ptr, lkS_int, lkL_nil, lkM_cons, lkB_cells, lkC_cons, lkC0_lst, lkC0_int, lkC_nil, lkC0_nil_nil, lkC0_nil_vw, lookM_cons, lookM_nil, nlKc_buf, List.cons_append, lkB_buf, lkM_nil, applyL_nlc, nlC1_cells, nlC2_nil, Nat.reduceBEq, Bool.not_false, nlR_t, applyL_nil, SL_ge0, leL_cons, leV1_ptr, kill3_int, leV1_int, leL_nil, and_true, leM_cons, leB_cells, leAs_cons, leA_lst, leA_int, leAs_nil, leA_nilnil, leA_vw, leB_buf, leM_nil, I11R, SL_st, lookL_cons, lookL_nil, eo_cmp, ev_cmp, cmp2_some, cmp_leq, toR_some', evC_cond, evC_skip, eo_faddr, ev_faddr, faddr_ptr, Nat.add_zero, eo_load, load_ptr, ldB_cells, eo_arith, arith_add, eo_conv, ev_conv, un1_conv, eo_bsliceO, vwsG_cons, ar_t, vws1_int, vwsG_nil, frzL_nil, goF_eq, ev_bsliceO, blO2_some, killB_buf, eo_append, ev_append, kill3_vw, gv_vw, kill3_junk, appR_vw, ysOf_vw, ysV_buf, appV_buf, appK_some, u8s_len, eo_store, vwsT_ptr, cells_vw, kill0_vw, kBlk_n, kLoop_n, lkC0_vw_vw, renK_t, knowL_nil, askL_nil, askL_cons, evC_exit, kSeq_e, kLoop_e, kBlk_e, kBlkB_t, cmp_eql, gv_bool, ar_c, eo_iaddrS, iaddrS_vw, iasV_buf, iasW_t, gv_bp, load_bp, ldP_buf, getE_l2, ldQ_t, valOf_agg, valB_true, List.drop_zero, List.take_succ_cons, List.take_zero, evC_ret, kRetX_r, retXG_eq, retX_eq, retL_cons, retV_c, rvP_ptr, rvB_cells, retL_nil, lkR_one, lk1_agg, lkAs_cons, lk0_vw_lst, lk0_int, lkAs_nil, lkT_t, applyL_frz, frzQ_buf, frzP_t, retX0_eq, frzSl_at, frz3_ptr, frzM_at, frzO_some, frzB_cells, frz0_vw, frz0_int, resXO_some, resX_one, leX1_agg, leXs_cons, leX0_lst, leX0_int, leXs_nil, pqR_one, pq1_agg, pqL_cons, pq0_lst, pq0_int, pqL_nil, pqK_nil, nodupN_nil, frs2_agg, frsL_cons, frs0_lst, frs0_int, frsL_nil, idsOK_eq, wfRes_one, wfX1_agg, wfX0_lst, wfX0_int, frz0_lst, resXT_t, knowL_cons, true_imp_iff, condK_bool, knowD_cons, knowD_nil, pairD_cons, pairOK_eq, newMen_none, List.contains_cons, List.contains_nil, Bool.or_false, Bool.or_true, pairB_t, pairD_nil, newMen_some, noMen_eq, noB_none, pairB_f, chkR_eq, pslots_ptr, optN_some, disjN_nil, pslots_agg, newI_none, newI_some, disjN_cons, pslots_int, kill3_ep, pslots_ep, kill3_lst, pslots_lst]
  have b0 := nx_bd hL a (n := 60) (by omega)
  have a0 := nxA_nn (L := L) ha 60
  generalize nxV L a 60 = V0 at *
  generalize nxA L a 60 = A0 at *
  have b1 := nx_bd hL A0 (n := 5) (by omega)
  have a1 := nxA_nn (L := L) a0 5
  generalize nxV L A0 5 = V1 at *
  generalize nxA L A0 5 = A1 at *
  have b2 := nx_bd hL A1 (n := 5) (by omega)
  have a2 := nxA_nn (L := L) a1 5
  generalize nxV L A1 5 = V2 at *
  generalize nxA L A1 5 = A2 at *
  have b3 := nx_bd hL A2 (n := 3) (by omega)
  have a3 := nxA_nn (L := L) a2 3
  generalize nxV L A2 3 = V3 at *
  generalize nxA L A2 3 = A3 at *
  have b4 := nx_bd hL A3 (n := 3) (by omega)
  have a4 := nxA_nn (L := L) a3 3
  generalize nxV L A3 3 = V4 at *
  generalize nxA L A3 3 = A4 at *
  have b5 := nx_bd hL A4 (n := 4) (by omega)
  have a5 := nxA_nn (L := L) a4 4
  generalize nxV L A4 4 = V5 at *
  generalize nxA L A4 4 = A5 at *
  have b6 := nx_bd hL A5 (n := 3) (by omega)
  have a6 := nxA_nn (L := L) a5 3
  generalize nxV L A5 3 = V6 at *
  generalize nxA L A5 3 = A6 at *
  refine ⟨ha, a0, ⟨b1.1, b1.2⟩, a1, ⟨b2.1, b2.2⟩, a2, ⟨b3.1, b3.2⟩, a3, ⟨b4.1, b4.2⟩, a4, ⟨b5.1, b5.2⟩, a5, ?_⟩
  have e0 : IntKind.i64.wrap (V0 * 1000000) = V0 * 1000000 := wr_in _ (by omega) (by omega)
  rw [e0]
  refine ⟨⟨A6, 0, V6, ⟨[], V0 * 1000000, ([0, 20, 50, 1000, 10000] : List Int).getD V1.toNat 0, ([0, 1, 5, 100, 10000] : List Int).getD V2.toNat 0, ([0, 200, 1000] : List Int).getD V3.toNat 0, ([1000, 600, 200] : List Int).getD V4.toNat 0, ([1, 10, 50, 1000] : List Int).getD V5.toNat 0⟩, a6, by omega, rfl, (by intro x hx; cases hx), ?_, litG _ b1.1 b1.2, litI _ b2.1 b2.2, litL _ b3.1 b3.2, litM _ b4.1 b4.2, litS _ b5.1 b5.2⟩, ⟨⟨rfl, rfl⟩, rfl, ⟨rfl, rfl, rfl, rfl, rfl, rfl⟩, rfl⟩, ?_⟩
  · dsimp only; omega
  rintro ⟨at', k, last, z, ha', hk, hl, hb, ht, hg, hi, hle, hm, hs⟩
  dsimp only
  refine ⟨fun hc => ?_, fun hc => ?_⟩
  · have hc := of_decide_eq_true hc
    refine ⟨by omega, by omega, ⟨at', k + 1, last, ⟨z.sens ++ [IntKind.u8.wrap (IntKind.i64.wrap (IntKind.i64.wrap (3 * k) + 1))], z.tgt, z.gain, z.intg, z.least, z.most, z.slew⟩, ha', by omega, ?_, ?_, ht, hg, hi, hle, hm, hs⟩, ⟨⟨AV.int_inj' (wr_in _ (by omega) (by omega)), rfl⟩, rfl, ⟨rfl, rfl, rfl, rfl, rfl, rfl⟩, u8s_app _ _⟩, ?_⟩
    · simp only [List.length_append, List.length_singleton]; omega
    · intro x hx
      rcases List.mem_append.1 hx with hx | hx
      · exact hb x hx
      · simp only [List.mem_singleton] at hx
        subst hx
        rw [IntKind.wrap_u8]; omega
    · simp only [I11M]; omega
  · have hc := of_decide_eq_false hc
    have c1 := nxA_nn (L := L) ha' 20
    have c2 := nx_bd hL (nxA L at' 20) (n := 2) (by omega)
    refine ⟨ha', fun _ => ⟨c1, ⟨c2.1, c2.2⟩, by omega, (⟨z.sens, z.tgt, z.gain, z.intg, z.least, z.most, ([0, 1001] : List Int).getD (nxV L (nxA L at' 20) 2).toNat 0⟩, nxA L (nxA L at' 20) 2), ⟨⟨hb, by dsimp only; omega, by dsimp only; omega, ht, hg, hi, hle, hm, litT _ c2.1 c2.2⟩, nxA_nn c1 _⟩, ⟨rfl, rfl, rfl, rfl, rfl, rfl, rfl⟩, rfl⟩,
      fun _ => ⟨fun _ => ⟨(⟨[2, 2], z.tgt, z.gain, z.intg, z.least, z.most, z.slew⟩, nxA L at' 20), ⟨⟨by intro x hx; simp at hx; omega, by dsimp only [List.length]; decide, by dsimp only [List.length]; decide, ht, hg, hi, hle, hm, hs⟩, c1⟩, ⟨rfl, rfl, rfl, rfl, rfl, rfl, rfl⟩, rfl⟩,
        fun _ => ⟨(z, nxA L at' 20), ⟨⟨hb, by dsimp only; omega, by dsimp only; omega, ht, hg, hi, hle, hm, hs⟩, c1⟩, ⟨rfl, rfl, rfl, rfl, rfl, rfl, rfl⟩, rfl⟩⟩⟩
end Go.Proofs.Ytofldhooanikcaa
