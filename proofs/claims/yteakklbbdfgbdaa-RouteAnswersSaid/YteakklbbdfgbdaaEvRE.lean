/- A part of the proof: symbolic evaluation of the program's functions, proved sound against the model; no condition. -/
import Derived.Test.YteakklbbdfgbdaaEvRD
namespace Go.Proofs.Yteakklbbdfgbdaa
open Go Go.RowKit Go.Ev
set_option linter.unusedSimpArgs false
set_option linter.unusedVariables false
set_option maxRecDepth 20000
structure K31a (m : Nt) where
  i : Nat
  hi : i ≤ m.bs.length
  hn : brE m.N m.bs = brF m.N m.bs (m.bs.length - i) i
def S31a (m : Nt) (p : K31a m) : SL := ⟨[(1, .ptr 128 0), (3, .int .i64 p.i)], [(128, .cells [.int .i64 m.N, .lst [.int .u8 0, .int .i64 0, .int .i64 0] (brs m.bs), .lst [.int .u8 0, .int .u8 0, .int .i64 0] (eps m.es)])]⟩
abbrev L31a (m : Nt) : LI := ⟨K31a m, S31a m, fun p => m.bs.length - p.i, fun p q => True⟩
theorem L31aS (m : Nt) : (L31a m).S = S31a m := rfl
theorem L31aM (m : Nt) (p : K31a m) : (L31a m).μ p = m.bs.length - p.i := rfl
theorem L31aR (m : Nt) (p q : K31a m) : (L31a m).R p q = (True) := rfl
def I31 (m : Nt) : Nat → LI := fun n => L31a m
theorem I31_0 (m : Nt) : I31 m 0 = L31a m := rfl
set_option maxHeartbeats 4000000 in
theorem walk31 {Phi : Nat → Option Ctr} (P32 : Phi 32 = some CTk) (m : Nt) (hl : m.bs.length ≤ 1000) : evC Phi (I31 m) rc31 ⟨initS [m.av], initM false []⟩ (kRet rv31 (.int .i64 (brE m.N m.bs)) false []) := by
  simp (config := {maxSteps := 2000000, contextual := true}) only [rc31, Nt.av, initM_f, rv31, evC_seq, evC_region, eo_box, evG_no, Option.getD_some, ev_box, av_t, initS_at, List.getD_cons_zero, gv_agg, bind1_some', boxR_eq, cells_agg, List.length_cons, List.length_nil, Nat.zero_add, Nat.reduceAdd, ↓reduceIte, bxO_some, Nat.mul_one, goOp_some, put_n, killB_cells, List.map_cons, kill0_int, kill0_lst, List.map_nil, eo_mov, ev_mov, av_c, gv_int, un1_mov, put_q, evOps_nil, kEnd_at, hasG_no, hasG_nil, kEndB_f, kSeq_n, evC_block, evC_loop, I31_0, L31aS, S31a, SL_ge, lkL_cons, upd_at, Nat.reduceEqDiff, lkS_ptr, lkS_int, lkL_nil, List.nil_append, lkM_cons, updM_at, lkB_cells, lkC_cons, lkC0_int, lkC0_lst, lkC_nil, lkM_nil, applyL_nil, SL_ge0, leL_cons, leV1_ptr, leV1_int, leL_nil, and_true, true_and, leM_cons, leB_cells, leAs_cons, leA_int, leA_lst, leAs_nil, and_self, leM_nil, L31aR, SL_st, lookL_cons, eo_faddr, ev_faddr, gv_ptr, faddr_ptr, eo_load, ev_load, load_ptr, lookM_cons, ldB_cells, valOf_one, List.getElem?_cons_succ, List.getElem?_cons_zero, ldV_some, eo_len, ev_len, gv_lst, len_lst, brs_len, eo_cmp, ev_cmp, cmp2_some, cmp_lss, toR_some', evC_cond, evC_skip, eo_iaddrS, ev_iaddrS, bind2_some', iaddrS_lst, beq_self_eq_true, iasB_true, Int.toNat_natCast, gv_ep, load_ep, getE_br, valOf_agg, Nat.reduceLeDiff, decide_true, valB_true, List.drop_zero, List.take_succ_cons, List.take_zero, eo_alloc, ev_alloc, Nat.reduceMul, eo_store, ar_t, killS_at, kill3_agg, vwsT_ptr, frzL_nil, goF_eq, Option.getD_none, ev_store, store_ptr, stB_cells, stC_true, setC_cons, List.set_cons_zero, List.set_cons_succ, setC_nil, put_s, liveB_cells, gv_bool, evG_yes, pathG_bool, gG_some, guardR_q, guardL_nil, gv_gd, List.contains_cons, List.contains_nil, Bool.or_false, List.all_cons, List.all_nil, Bool.and_self, gvB_true, kill3_ptr, Nat.add_zero, killM_at, killO_some, cmp_geq, eo_pick, ev_pick, pick3_some, pickV_bool, Bool.cond_true_left, hasG_yes, kEndB_t, evC_ret, kBlk_r, kSeq_r, kLoop_r, kRet_r, retOK_eq, retL_cons, retV_t, retL_nil, consO_some, lkR_one, lk1_int, lkT_f, retOK_f, rtO_some, resV_one, knowL_nil, askL_nil, ungdS_at, ungd_ptr, cmp_eql, evC_draw, preK_some, needD_faddr, preB_f, needD_load, needD_cmp, needD_mov, needD_pick, needD_slice, preB_t, needD_call, preK_nil, evD_cons, evDk_some, newOK_none, cmp_gtr, kill3_int, ungd_int, ev_slice, boundA_none, boundA_some, optS_some, sliceQ_lst, sliceO_some, slice_lst, loOf_none, hiOf_int, slL_some, Int.reduceLE, Int.reduceToNat, brs_take, guardL_cons, pathP_cons, boolOf_bool, pathP_nil, ev_call, P32, CTk, avs_cons, avs_nil, clE_some, callE_pure, lends_cons, lend1_lst, lend1_int, lends_nil, consL_some', callN_some, decBr_brs, callP_some, c2_bool, flat2_bool, backOK_nil, clQ_t, evD_nil, kBlk_n, eo_arith, ev_arith, arith_add, kLoop_n, ungd_bool, condK_bool, knowD_cons, knowD_nil, pairD_cons, pairOK_eq, newMen_none, Nat.reduceBEq, Bool.or_true, pairB_t, pairD_nil, askL_cons, pairB_f, chkR_eq, pslots_gd, optN_some, disjN_cons, Bool.not_false, disjN_nil, newI_none, List.cons_append, knowL_cons, evC_exit, kSeq_e, kLoop_e, kBlk_e, kBlkB_t, true_imp_iff]
  refine ⟨⟨0, Nat.zero_le _, rfl⟩, rfl, ?_⟩
  rintro ⟨i, hi, hn⟩
  dsimp only
  intro _
  refine ⟨fun hc => ?_, fun hc => ?_⟩
  · have hc := of_decide_eq_true hc
    have hlt : i < m.bs.length := by omega
    have hT : (m.bs.take i).length ≤ 1000 := by rw [List.length_take]; omega
    have hs : m.bs.length - i = (m.bs.length - (i + 1)) + 1 := by omega
    have hn2 := hn
    rw [hs] at hn2
    rw [Nat.sub_zero]
    have F : ∀ {b : Br}, (decide (b.l < 0) || decide (m.N ≤ b.l) || decide (b.r < 0) || decide (m.N ≤ b.r)) = false → ¬ (b.l < 0 ∨ m.N ≤ b.l ∨ b.r < 0 ∨ m.N ≤ b.r) := fun h => by
      simp only [Bool.or_eq_false_iff, decide_eq_false_iff_not] at h
      omega
    have T : ∀ {b : Br}, (decide (b.l < 0) || decide (m.N ≤ b.l) || decide (b.r < 0) || decide (m.N ≤ b.r)) = true → b.l < 0 ∨ m.N ≤ b.l ∨ b.r < 0 ∨ m.N ≤ b.r := fun h => by
      simp only [Bool.or_eq_true, decide_eq_true_eq] at h
      omega
    refine ⟨⟨by omega, by omega⟩, fun h1 => ?_, fun h1 => ⟨fun h2 => ?_, fun h2 => ⟨fun _ => ⟨by omega, by omega⟩, fun _ => hT, fun _ => ⟨by omega, by omega⟩, fun _ => hT, fun h3 => ?_, fun h3 => ⟨⟨i + 1, by omega, ?_⟩, AV.int_inj' (wr_succ i (by omega)), by dsimp only; omega⟩⟩⟩⟩
    · rw [hn2, brF_stop (brE1_a (T h1)) (by decide)]
    · rw [hn2, brF_stop (brE1_b (F h1) (of_decide_eq_true h2)) (by decide)]
    · rw [hn2, brF_stop (brE1_c (F h1) (of_decide_eq_false h2) (by simpa only [Bool.or_eq_true, decide_eq_true_eq, or_assoc] using h3)) (by decide)]
    · rw [hn2, brF_next (brE1_0 (F h1) (of_decide_eq_false h2) (fun h => by
        simp only [Bool.or_eq_false_iff, decide_eq_false_iff_not] at h3
        obtain ⟨⟨⟨h31, h32⟩, h33⟩, h34⟩ := h3
        rcases h with h | h | h | h
        · exact h31 h
        · exact h32 h
        · rw [h33] at h; cases h
        · rw [h34] at h; cases h))]
  · have hc := of_decide_eq_false hc
    rw [hn, show m.bs.length - i = 0 by omega]; rfl
end Go.Proofs.Yteakklbbdfgbdaa
