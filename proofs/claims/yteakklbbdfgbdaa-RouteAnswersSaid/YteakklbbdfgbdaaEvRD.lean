/- A part of the proof: symbolic evaluation of the program's functions, proved sound against the model; no condition. -/
import Derived.Test.YteakklbbdfgbdaaEvRC
namespace Go.Proofs.Yteakklbbdfgbdaa
open Go Go.RowKit Go.Ev
set_option linter.unusedSimpArgs false
set_option linter.unusedVariables false
set_option maxRecDepth 20000
set_option maxHeartbeats 4000000 in
theorem walk23 {Phi : Nat → Option Ctr} (b : Br) (x : Int) : evC Phi (noI) rc23 ⟨initS [b.av, .int .i64 x], initM false []⟩ (kRet rv23 (.tup [.int .i64 (sdV b x), .bool (sdK b x)]) false []) := by
  simp (config := {maxSteps := 2000000}) only [rc23, Br.av, initM_f, rv23, evC_seq, evC_region, eo_box, evG_no, Option.getD_some, ev_box, av_t, initS_at, List.getD_cons_zero, gv_agg, bind1_some', boxR_eq, cells_agg, List.length_cons, List.length_nil, Nat.zero_add, Nat.reduceAdd, ↓reduceIte, bxO_some, Nat.reduceMul, goOp_some, put_n, killB_cells, List.map_cons, kill0_int, List.map_nil, eo_mov, ev_mov, av_c, gv_int, un1_mov, put_q, gv_bool, evOps_nil, kEnd_at, hasG_no, hasG_nil, kEndB_f, kSeq_n, evC_block, eo_faddr, ev_faddr, upd_at, Nat.reduceEqDiff, gv_ptr, faddr_ptr, eo_load, ev_load, load_ptr, updM_at, ldB_cells, valOf_one, List.getElem?_cons_succ, List.getElem?_cons_zero, ldV_some, eo_cmp, ev_cmp, cmp2_some, cmp_eql, toR_some', evC_cond, evC_ret, kBlk_r, kSeq_r, kRet_r, retOK_eq, retL_cons, retV_t, retL_nil, consO_some, lkR_two, lkVs_cons, lk1_int, lk1_bool, lkVs_nil, List.nil_append, lkT_f, applyL_nil, retOK_f, rtO_some, resV_two, leVs_cons, leV1_int, leV1_bool, leVs_nil, and_true, knowL_nil, askL_nil, killS_at, List.getD_cons_succ, kill3_int, evC_skip, kBlk_n, ar_t, condK_bool]
  refine ⟨fun h => ?_, fun h => ⟨fun h1 => ?_, fun h1 => ⟨fun h2 => ?_, fun h2 => ?_⟩⟩⟩
  · have e : sd b x = none := by rw [sd, if_pos (of_decide_eq_true h)]
    rw [sdV, sdK, e]; exact ⟨rfl, rfl⟩
  · have e : sd b x = some b.r := by rw [sd, if_neg (of_decide_eq_false h), if_pos (of_decide_eq_true h1)]
    rw [sdV, sdK, e]; exact ⟨rfl, rfl⟩
  · have e : sd b x = some b.l := by rw [sd, if_neg (of_decide_eq_false h), if_neg (of_decide_eq_false h1), if_pos (of_decide_eq_true h2)]
    rw [sdV, sdK, e]; exact ⟨rfl, rfl⟩
  · have e : sd b x = none := by rw [sd, if_neg (of_decide_eq_false h), if_neg (of_decide_eq_false h1), if_neg (of_decide_eq_false h2)]
    rw [sdV, sdK, e]; exact ⟨rfl, rfl⟩
set_option maxHeartbeats 4000000 in
theorem walk24 {Phi : Nat → Option Ctr} (b : Br) (x : Int) : evC Phi (noI) rc24 ⟨initS [b.av, .int .i64 x], initM false []⟩ (kRet rv24 (.tup [.int .i64 (sdV b x), .bool (sdK b x)]) false []) := by
  simp (config := {maxSteps := 2000000}) only [rc24, Br.av, initM_f, rv24, evC_seq, evC_region, eo_box, evG_no, Option.getD_some, ev_box, av_t, initS_at, List.getD_cons_zero, gv_agg, bind1_some', boxR_eq, cells_agg, List.length_cons, List.length_nil, Nat.zero_add, Nat.reduceAdd, ↓reduceIte, bxO_some, Nat.reduceMul, goOp_some, put_n, killB_cells, List.map_cons, kill0_int, List.map_nil, eo_mov, ev_mov, av_c, gv_int, un1_mov, put_q, gv_bool, evOps_nil, kEnd_at, hasG_no, hasG_nil, kEndB_f, kSeq_n, evC_block, eo_faddr, ev_faddr, upd_at, Nat.reduceEqDiff, gv_ptr, faddr_ptr, eo_load, ev_load, load_ptr, updM_at, ldB_cells, valOf_one, List.getElem?_cons_succ, List.getElem?_cons_zero, ldV_some, eo_cmp, ev_cmp, cmp2_some, cmp_eql, toR_some', evC_cond, evC_ret, kBlk_r, kSeq_r, kRet_r, retOK_eq, retL_cons, retV_t, retL_nil, consO_some, lkR_two, lkVs_cons, lk1_int, lk1_bool, lkVs_nil, List.nil_append, lkT_f, applyL_nil, retOK_f, rtO_some, resV_two, leVs_cons, leV1_int, leV1_bool, leVs_nil, and_true, knowL_nil, askL_nil, killS_at, List.getD_cons_succ, kill3_int, evC_skip, kBlk_n, ar_t, condK_bool]
  refine ⟨fun h => ?_, fun h => ⟨fun h1 => ?_, fun h1 => ⟨fun h2 => ?_, fun h2 => ?_⟩⟩⟩
  · have e : sd b x = none := by rw [sd, if_pos (of_decide_eq_true h)]
    rw [sdV, sdK, e]; exact ⟨rfl, rfl⟩
  · have e : sd b x = some b.r := by rw [sd, if_neg (of_decide_eq_false h), if_pos ((of_decide_eq_true h1).symm)]
    rw [sdV, sdK, e]; exact ⟨rfl, rfl⟩
  · have e : sd b x = some b.l := by rw [sd, if_neg (of_decide_eq_false h), if_neg (fun e => of_decide_eq_false h1 e.symm), if_pos ((of_decide_eq_true h2).symm)]
    rw [sdV, sdK, e]; exact ⟨rfl, rfl⟩
  · have e : sd b x = none := by rw [sd, if_neg (of_decide_eq_false h), if_neg (fun e => of_decide_eq_false h1 e.symm), if_neg (fun e => of_decide_eq_false h2 e.symm)]
    rw [sdV, sdK, e]; exact ⟨rfl, rfl⟩
set_option maxHeartbeats 4000000 in
theorem walk27 {Phi : Nat → Option Ctr} (d : Int) : evC Phi (noI) rc27 ⟨initS [.int .i64 d], initM false []⟩ (kRet rv27 (.int .i64 (far d)) false []) := by
  simp (config := {maxSteps := 2000000}) only [rc27, initM_f, rv27, evC_seq, evC_region, eo_mov, evG_no, Option.getD_some, ev_mov, av_c, gv_int, bind1_some', un1_mov, goOp_some, put_q, evOps_nil, kEnd_at, hasG_no, hasG_nil, kEndB_f, kSeq_n, evC_block, av_t, upd_at, Nat.reduceEqDiff, ↓reduceIte, initS_at, List.getD_cons_zero, eo_cmp, ev_cmp, cmp2_some, cmp_lss, toR_some', gv_bool, evC_cond, evC_ret, kBlk_r, kSeq_r, kRet_r, retOK_eq, retL_cons, retV_t, retL_nil, consO_some, lkR_one, lk1_int, lkT_f, List.nil_append, applyL_nil, retOK_f, rtO_some, resV_one, leV1_int, and_true, knowL_nil, askL_nil, cmp_gtr, evC_skip, kBlk_n, ar_t, condK_bool]
  exact ⟨fun h => by rw [far, if_pos (of_decide_eq_true h)], fun h => ⟨fun h1 => by rw [far, if_neg (of_decide_eq_false h), if_pos (of_decide_eq_true h1)], fun h1 => by rw [far, if_neg (of_decide_eq_false h), if_neg (of_decide_eq_false h1)]⟩⟩
set_option maxHeartbeats 4000000 in
theorem walk30 {Phi : Nat → Option Ctr} (a : Int) : evC Phi (noI) rc30 ⟨initS [.int .u8 a], initM false []⟩ (kRet rv30 (.bool (okA a)) false []) := by
  simp (config := {maxSteps := 2000000}) only [rc30, initM_f, rv30, evC_seq, evC_region, eo_mov, evG_no, Option.getD_some, ev_mov, av_c, gv_bool, bind1_some', un1_mov, goOp_some, put_q, evOps_nil, kEnd_at, hasG_no, hasG_nil, kEndB_f, kSeq_n, av_t, upd_at, Nat.reduceEqDiff, ↓reduceIte, initS_at, List.getD_cons_zero, gv_int, eo_cmp, ev_cmp, cmp2_some, cmp_geq, toR_some', evG_yes, pathG_bool, gG_some, guardR_q, guardL_nil, gv_gd, List.contains_cons, List.contains_nil, Bool.or_false, List.all_cons, beq_self_eq_true, List.all_nil, Bool.and_self, gvB_true, cmp_leq, eo_pick, ev_pick, List.nil_append, pick3_some, pickV_bool, Bool.cond_false_right, hasG_yes, kEndB_t, evC_ret, kRet_r, retOK_eq, retL_cons, retV_t, ungdS_at, ungd_bool, retL_nil, consO_some, lkR_one, lk1_bool, lkT_f, applyL_nil, retOK_f, rtO_some, resV_one, leV1_bool, and_true, knowL_nil, askL_nil]
  rfl
structure K33a (m : Nt) (id : Int) where
  i : Nat
  hi : i ≤ m.es.length
  hn : ∀ j, j < i → decide ((m.es.getD j e0).id = id) = false
def S33a (m : Nt) (id : Int) (p : K33a m id) : SL := ⟨[(1, .int .u8 id), (4, .ptr 320 0), (9, .lst [.int .u8 0, .int .u8 0, .int .i64 0] (eps m.es)), (10, .int .i64 m.es.length), (11, .int .i64 p.i)], [(320, .cells [.int .u8 0, .int .u8 0, .int .i64 0])]⟩
abbrev L33a (m : Nt) (id : Int) : LI := ⟨K33a m id, S33a m id, fun p => m.es.length - p.i, fun p q => True⟩
theorem L33aS (m : Nt) (id : Int) : (L33a m id).S = S33a m id := rfl
theorem L33aM (m : Nt) (id : Int) (p : K33a m id) : (L33a m id).μ p = m.es.length - p.i := rfl
theorem L33aR (m : Nt) (id : Int) (p q : K33a m id) : (L33a m id).R p q = (True) := rfl
def I33 (m : Nt) (id : Int) : Nat → LI := fun n => L33a m id
theorem I33_0 (m : Nt) (id : Int) : I33 m id 0 = L33a m id := rfl
set_option maxHeartbeats 4000000 in
theorem walk33 {Phi : Nat → Option Ctr} (m : Nt) (id : Int) (hl : m.es.length ≤ 1000) : evC Phi (I33 m id) rc33 ⟨initS [m.av, .int .u8 id], initM false []⟩ (kRet rv33 (.tup [(epF m.es id).av, .bool (epK m.es id)]) false []) := by
  simp (config := {maxSteps := 2000000, contextual := true}) only [rc33, Nt.av, initM_f, rv33, Ep.av, evC_seq, evC_region, eo_box, evG_no, Option.getD_some, ev_box, av_t, initS_at, List.getD_cons_zero, gv_agg, bind1_some', boxR_eq, cells_agg, List.length_cons, List.length_nil, Nat.zero_add, Nat.reduceAdd, ↓reduceIte, bxO_some, Nat.reduceMul, goOp_some, put_n, killB_cells, List.map_cons, kill0_int, kill0_lst, List.map_nil, eo_alloc, ev_alloc, eo_mov, ev_mov, av_c, gv_bool, un1_mov, put_q, evOps_nil, kEnd_at, hasG_no, hasG_nil, kEndB_f, kSeq_n, eo_faddr, ev_faddr, upd_at, Nat.reduceEqDiff, killS_at, kill3_ptr, gv_ptr, faddr_ptr, eo_load, ev_load, load_ptr, updM_at, killM_at, killO_some, ldB_cells, valOf_one, List.getElem?_cons_succ, List.getElem?_cons_zero, ldV_some, eo_len, ev_len, gv_lst, len_lst, eps_len, gv_int, evC_block, evC_loop, I33_0, L33aS, S33a, SL_ge, lkL_cons, List.getD_cons_succ, kill3_int, lkS_int, lkS_ptr, lkS_lst, lkL_nil, List.nil_append, lkM_cons, lkB_cells, lkC_cons, lkC0_int, lkC_nil, lkM_nil, applyL_nil, SL_ge0, leL_cons, leV1_int, leV1_ptr, leV1_lst, leL_nil, and_true, true_and, leM_cons, leB_cells, leAs_cons, leA_int, leAs_nil, and_self, leM_nil, L33aR, SL_st, eo_cmp, ev_cmp, lookL_cons, cmp2_some, cmp_lss, toR_some', evC_cond, evC_skip, eo_iaddrS, ev_iaddrS, bind2_some', iaddrS_lst, beq_self_eq_true, iasB_true, Int.toNat_natCast, gv_ep, load_ep, getE_ep, valOf_agg, Nat.reduceLeDiff, decide_true, valB_true, List.drop_zero, List.take_succ_cons, List.take_zero, eo_store, ar_t, kill3_agg, vwsT_ptr, frzL_nil, goF_eq, Option.getD_none, ev_store, store_ptr, stB_cells, stC_true, setC_cons, List.set_cons_zero, List.set_cons_succ, setC_nil, put_s, liveB_cells, Nat.add_zero, cmp_eql, lookM_cons, evC_ret, kBlk_r, kSeq_r, kLoop_r, kRet_r, retOK_eq, retL_cons, retV_c, rvP_ptr, rvB_cells, retV_t, retL_nil, consO_some, lkR_two, lkVs_cons, lk1_agg, lkAs_cons, lk0_int, lkAs_nil, lk1_bool, lkVs_nil, lkT_f, retOK_f, rtO_some, resV_two, leVs_cons, leV1_agg, leV1_bool, leVs_nil, knowL_nil, askL_nil, kBlk_n, eo_arith, ev_arith, arith_add, kLoop_n, kill3_lst, condK_bool, knowL_cons, askL_cons, evC_exit, kSeq_e, kLoop_e, kBlk_e, kBlkB_t, eo_build, ev_build, fillA_nil, blO_some, true_imp_iff]
  intro _
  refine ⟨⟨0, Nat.zero_le _, fun j hj => absurd hj (Nat.not_lt_zero j)⟩, rfl, ?_⟩
  rintro ⟨i, hi, hn⟩
  dsimp only
  refine ⟨fun hc => ?_, fun hc => ?_⟩
  · have hc := of_decide_eq_true hc
    refine ⟨⟨by omega, by omega⟩, fun h1 => ?_, fun h1 => ⟨⟨i + 1, by omega, fun j hj => ?_⟩, AV.int_inj' (wr_succ i (by omega)), by dsimp only; omega⟩⟩
    · have e := find_pre (fun e : Ep => decide (e.id = id)) m.es i e0 hn (by omega) h1
      have k := any_pre (fun e : Ep => decide (e.id = id)) m.es i e0 (by omega) h1
      rw [epF, e, epK, k]; exact ⟨⟨rfl, rfl, rfl⟩, rfl⟩
    · by_cases e : j = i
      · subst e; exact h1
      · exact hn j (by omega)
  · have hc := of_decide_eq_false hc
    have e := find_not (fun e : Ep => decide (e.id = id)) m.es e0 (fun j hj => hn j (by omega))
    have k := any_not (fun e : Ep => decide (e.id = id)) m.es e0 (fun j hj => hn j (by omega))
    rw [epF, e, epK, k]; exact ⟨⟨rfl, rfl, rfl⟩, rfl⟩
structure K32a (l : List Br) (x a : Int) where
  i : Nat
  hi : i ≤ l.length
  hn : ∀ j, j < i → tk1 x a (l.getD j b0) = false
def S32a (l : List Br) (x a : Int) (p : K32a l x a) : SL := ⟨[(0, .lst [.int .u8 0, .int .i64 0, .int .i64 0] (brs l)), (1, .int .i64 x), (2, .int .u8 a), (7, .int .i64 p.i)], []⟩
abbrev L32a (l : List Br) (x a : Int) : LI := ⟨K32a l x a, S32a l x a, fun p => l.length - p.i, fun p q => True⟩
theorem L32aS (l : List Br) (x a : Int) : (L32a l x a).S = S32a l x a := rfl
theorem L32aM (l : List Br) (x a : Int) (p : K32a l x a) : (L32a l x a).μ p = l.length - p.i := rfl
theorem L32aR (l : List Br) (x a : Int) (p q : K32a l x a) : (L32a l x a).R p q = (True) := rfl
def I32 (l : List Br) (x a : Int) : Nat → LI := fun n => L32a l x a
theorem I32_0 (l : List Br) (x a : Int) : I32 l x a 0 = L32a l x a := rfl
set_option maxHeartbeats 4000000 in
theorem walk32 {Phi : Nat → Option Ctr} (l : List Br) (x a : Int) (hl : l.length ≤ 1000) : evC Phi (I32 l x a) rc32 ⟨initS [.lst [.int .u8 0, .int .i64 0, .int .i64 0] (brs l), .int .i64 x, .int .u8 a], initM false []⟩ (kRet rv32 (.bool (tk l x a)) false []) := by
  simp (config := {maxSteps := 2000000, contextual := true}) only [rc32, initM_f, rv32, evC_seq, evC_region, eo_mov, evG_no, Option.getD_some, ev_mov, av_c, gv_bool, bind1_some', un1_mov, goOp_some, put_q, evOps_nil, kEnd_at, hasG_no, hasG_nil, kEndB_f, kSeq_n, gv_int, evC_block, evC_loop, I32_0, L32aS, S32a, SL_ge, lkL_cons, upd_at, Nat.reduceEqDiff, ↓reduceIte, initS_at, List.getD_cons_zero, lkS_lst, List.getD_cons_succ, lkS_int, lkL_nil, List.nil_append, lkM_nil, applyL_nil, SL_ge0, leL_cons, leV1_lst, leV1_int, leL_nil, and_true, true_and, leM_nil, L32aR, SL_st, av_t, lookL_cons, gv_lst, eo_len, ev_len, len_lst, brs_len, eo_cmp, ev_cmp, cmp2_some, cmp_lss, toR_some', evC_cond, evC_skip, eo_iaddrS, ev_iaddrS, bind2_some', iaddrS_lst, List.length_cons, List.length_nil, Nat.zero_add, Nat.reduceAdd, beq_self_eq_true, iasB_true, Int.toNat_natCast, eo_faddr, ev_faddr, gv_ep, faddr_ep, Nat.add_zero, eo_load, ev_load, load_ep, getE_br, valOf_one, List.getElem?_cons_zero, ldV_some, cmp_eql, evG_yes, pathG_bool, gG_some, guardR_q, guardL_nil, gv_gd, List.contains_cons, List.contains_nil, Bool.or_false, List.all_cons, List.all_nil, Bool.and_self, gvB_true, guardL_cons, pathP_cons, boolOf_bool, pathP_nil, List.getElem?_cons_succ, pathG_gd, List.cons_append, Bool.true_or, Bool.or_true, boolOf_gd, eo_pick, ev_pick, pick3_some, pickV_bool, Bool.cond_true_left, Bool.cond_false_right, hasG_yes, kEndB_t, evC_ret, kBlk_r, kSeq_r, kLoop_r, kRet_r, retOK_eq, retL_cons, retV_t, retL_nil, consO_some, lkR_one, lk1_bool, lkT_f, retOK_f, rtO_some, resV_one, leV1_bool, knowL_nil, askL_nil, kBlk_n, ungdS_at, ungd_int, eo_arith, ev_arith, arith_add, kLoop_n, ungd_lst, ar_t, ungd_bool, condK_bool, askL_cons, knowL_cons, evC_exit, kSeq_e, kLoop_e, kBlk_e, kBlkB_t, true_imp_iff]
  refine ⟨⟨0, Nat.zero_le _, fun j hj => absurd hj (Nat.not_lt_zero j)⟩, rfl, ?_⟩
  rintro ⟨i, hi, hn⟩
  dsimp only
  intro _
  refine ⟨fun hc => ?_, fun hc => ?_⟩
  · have hc := of_decide_eq_true hc
    refine ⟨⟨by omega, by omega⟩, fun _ => ⟨by omega, by omega⟩, fun _ => ⟨by omega, by omega⟩, fun h1 => ?_, fun h1 => ⟨⟨i + 1, by omega, fun j hj => ?_⟩, AV.int_inj' (wr_succ i (by omega)), by dsimp only; omega⟩⟩
    · rw [tk, any_pre (tk1 x a) l i b0 (by omega) h1]
    · by_cases e : j = i
      · subst e; exact h1
      · exact hn j (by omega)
  · have hc := of_decide_eq_false hc
    rw [tk, any_not (tk1 x a) l b0 (fun j hj => hn j (by omega))]
end Go.Proofs.Yteakklbbdfgbdaa
