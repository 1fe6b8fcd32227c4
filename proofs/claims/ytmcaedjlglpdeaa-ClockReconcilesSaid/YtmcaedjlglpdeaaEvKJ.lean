/- A part of the proof: symbolic evaluation of the program's functions, proved sound against the model; no condition. -/
import Derived.Test.YtmcaedjlglpdeaaEvKB
namespace Go.Proofs.Ytmcaedjlglpdeaa
open Go Go.RowKit Go.Ev
set_option linter.unusedSimpArgs false
set_option linter.unusedVariables false
set_option maxRecDepth 20000
def decI (es : List (List AV)) : List Int := es.map fun e => match e with
  | [.int _ n] => n
  | _ => 0
theorem decI_i64s (l : List Int) : decI (i64s l) = l := by
  simp only [decI, i64s, List.map_map]
  exact (List.map_congr_left fun _ _ => rfl).trans (List.map_id l)
/-- The dice: the next value, the next place. -/
def dxV (L : List Int) (a n : Int) : Int := if a < (L.length : Int) then modI (L.getD a.toNat 0) n else 0
def dxA (L : List Int) (a : Int) : Int := if a < (L.length : Int) then a + 1 else a
def CDl : Ctr := .mk false fun _ xs => match xs with
  | [.lst zz es] => some (zz = [.int .i64 0] ∧ es = i64s (decI es), .bool (decide (((decI es).length : Int) ≤ 600)), [])
  | _ => none
def CRl : Ctr := .ext false Unit fun _ xs => match xs with
  | [.lst zz es] => some (zz = [.int .i64 0] ∧ es = i64s (decI es), fun _ => (True, .fp 0 [.lst [.int .i64 0] (i64s (decI es)), .int .i64 0], []))
  | _ => none
def CDx : Ctr := .mk true fun cs xs => match cs, xs with
  | [.lst zz es, .int .i64 a], [.int .i64 n] => some ((zz = [.int .i64 0] ∧ es = i64s (decI es)) ∧ 0 ≤ a ∧ n ≠ 0, .int .i64 (dxV (decI es) a n), [.lst zz es, .int .i64 (dxA (decI es) a)])
  | _, _ => none
def CDb : Ctr := .mk true fun cs xs => match cs, xs with
  | [.lst zz es, .int .i64 a], [.int .i64 n] => some ((zz = [.int .i64 0] ∧ es = i64s (decI es)) ∧ 0 ≤ a ∧ n ≠ 0, .bool (decide (dxV (decI es) a n = W (n - 1))), [.lst zz es, .int .i64 (dxA (decI es) a)])
  | _, _ => none
def dyV (L : List Int) (a : Int) : Int := if dxV L a 3 = 2 then ([0, 1, 127, 128, 254, 255, 15, 240] : List Int).getD (sel 8 (dxV L (dxA L a) 8)) 0 else IntKind.u8.wrap (dxV L (dxA L a) 256)
def dyA (L : List Int) (a : Int) : Int := dxA L (dxA L a)
def CDy : Ctr := .mk true fun cs xs => match cs, xs with
  | [.lst zz es, .int .i64 a], [] => some ((zz = [.int .i64 0] ∧ es = i64s (decI es)) ∧ 0 ≤ a, .int .u8 (dyV (decI es) a), [.lst zz es, .int .i64 (dyA (decI es) a)])
  | _, _ => none
def CDe : Ctr := .ext true (E × Int) fun cs xs => match cs, xs with
  | [.lst zz es, .int .i64 a], [] => some ((zz = [.int .i64 0] ∧ es = i64s (decI es)) ∧ 0 ≤ a, fun q => ((0 ≤ q.1.time ∧ q.1.time ≤ 4294967295) ∧ 0 ≤ q.2, q.1.av, [.lst [.int .i64 0] (i64s (decI es)), .int .i64 q.2]))
  | _, _ => none
theorem dxA_nn {L : List Int} {a : Int} (h : 0 ≤ a) : 0 ≤ dxA L a := by simp only [dxA]; split <;> omega
theorem dyA_nn {L : List Int} {a : Int} (h : 0 ≤ a) : 0 ≤ dyA L a := dxA_nn (dxA_nn h)
theorem modI_bd {n m : Int} (h : 1 ≤ m) (h2 : m ≤ 4611686018427387904) : 0 ≤ modI n m ∧ modI n m < m := by
  have h3 : -m < n.tmod m := by
    have := Int.tmod_lt_of_pos (-n) (show 0 < m by omega)
    rw [Int.neg_tmod] at this; omega
  have h4 := Int.tmod_lt_of_pos n (show 0 < m by omega)
  simp only [modI]
  split
  · rw [show W (n.tmod m + m) = n.tmod m + m from wr_in _ (by omega) (by omega)]; omega
  · omega
theorem dx_bd {L : List Int} {a m : Int} (h : 1 ≤ m) (h2 : m ≤ 4611686018427387904) : 0 ≤ dxV L a m ∧ dxV L a m < m := by
  simp only [dxV]; split
  · exact modI_bd h h2
  · omega
theorem u32_bd (n : Int) : 0 ≤ IntKind.u32.wrap n ∧ IntKind.u32.wrap n ≤ 4294967295 := by
  rw [IntKind.wrap_u32]; omega
/-- One half of the pair of events of a clock that is set. -/
def isx (x : E) (w : Int) : Bool := decide (x.st = 18) && (decide (x.ty = 111) && (!x.de && (decide (x.d0 = 5) && (decide (x.d1 = w) && decide (x.d2 = 255)))))
def CIs : Ctr := .mk false fun _ xs => match xs with
  | [.agg [.int .u16 i, .int .u32 t, .int .u16 g, .int .u8 s, .int .u8 n, .int .u8 y, .bool e, .int .u8 a, .int .u8 b, .int .u8 c], .int .u8 w] => some (True, .bool (isx ⟨i, t, g, s, n, y, e, a, b, c⟩ w), [])
  | _ => none
def mark (x : E) : Int := if isx x 0 then 1 else if isx x 128 then 2 else 0
def CMk : Ctr := .mk false fun _ xs => match xs with
  | [.agg [.int .u16 i, .int .u32 t, .int .u16 g, .int .u8 s, .int .u8 n, .int .u8 y, .bool e, .int .u8 a, .int .u8 b, .int .u8 c]] => some (True, .int .i64 (mark ⟨i, t, g, s, n, y, e, a, b, c⟩), [])
  | _ => none
theorem walk20 {Phi : Nat → Option Ctr} (L : List Int) : evC Phi (noI) rc20 ⟨initS [.lst [.int .i64 0] (i64s L)], initM false []⟩ (kRet rv20 (.bool (decide ((L.length : Int) ≤ 600))) false []) := by
  simp only [rc20, initM_f, rv20, evC_seq, evC_region, eo_mov, evG_no, Option.getD_some, ev_mov, av_c, gv_bool, bind1_some', un1_mov, goOp_some, put_q, evOps_nil, kEnd_at, hasG_no, hasG_nil, kEndB_f, kSeq_n, av_t, upd_at, Nat.reduceEqDiff, initS_at, List.getD_cons_zero, if_false, gv_lst, eo_len, ev_len, List.getD_cons_succ, if_true, len_lst, i64s_len, eo_cmp, ev_cmp, gv_int, cmp2_some, cmp_leq, toR_some', evC_ret, kRet_r, retOK_eq, retL_cons, retV_t, retL_nil, consO_some, lkR_one, lk1_bool, lkT_f, List.nil_append, applyL_nil, retOK_f, rtO_some, resV_one, leV1_bool, and_self, knowL_nil, askL_nil, knowL_cons, implies_true]
set_option maxHeartbeats 4000000 in
theorem walk21 {Phi : Nat → Option Ctr} (L : List Int) : evC Phi (noI) rc21 ⟨initS [.lst [.int .i64 0] (i64s L)], initM false []⟩ (kRetX rv21 false (fun _ : Unit => (True, .fp 0 [.lst [.int .i64 0] (i64s L), .int .i64 0], []))) := by
  simp (config := {maxSteps := 2000000}) only [rc21, initM_f, rv21, evC_seq, evC_region, eo_mov, evG_no, Option.getD_some, ev_mov, av_c, gv_junk, bind1_some', un1_mov, goOp_some, put_q, evOps_nil, kEnd_at, hasG_no, hasG_nil, kEndB_f, kSeq_n, av_t, upd_at, Nat.reduceEqDiff, initS_at, List.getD_cons_zero, if_false, gv_lst, eo_build, ev_build, fillA_cons, List.getD_cons_succ, if_true, faK_some, cells_lst, faC_some, Nat.zero_add, List.length_cons, List.length_nil, Nat.reduceAdd, Nat.reduceLeDiff, setC_cons, List.set_cons_zero, setC_nil, fillA_nil, blO_some, eo_box, ev_box, gv_agg, boxR_eq, cells_agg, bxO_some, Nat.reduceMul, put_n, killB_cells, List.map_cons, kill0_lst, kill0_int, List.map_nil, killS_at, gv_ptr, evC_ret, kRetX_r, retXG_eq, retX_eq, retL_cons, retV_t, kill3_junk, retL_nil, consO_some, lkR_one, lk1_ptr, lkT_f, List.nil_append, applyL_nil, retX0_eq, resXO_some, resX_one, leX1_fp, updM_at, killM_at, killO_none, leFC_cells, leAs_cons, leA_lst, leA_int, leAs_nil, and_self, pqR_one, pq1_fp, pqK_some, pqK_nil, nodupN_cons, List.contains_nil, Bool.not_false, nodupN_nil, Bool.and_self, List.all_cons, decide_true, List.all_nil, frs2_fp, idsOK_eq, Nat.reduceLT, wfRes_one, wfX1_fp, c0_lst, c0_int, resXT_f, knowL_nil, askL_nil]
  exact ⟨(), trivial⟩
set_option maxHeartbeats 4000000 in
theorem walk22 {Phi : Nat → Option Ctr} (P27 : Phi 27 = some CM) (L : List Int) (a n : Int) (ha : 0 ≤ a) (hn : n ≠ 0) : evC Phi (noI) rc22 ⟨initS (.ptr 0 0 :: [.int .i64 n]), initM true [.lst [.int .i64 0] (i64s L), .int .i64 a]⟩ (kRet rv22 (.int .i64 (dxV L a n)) true [.lst [.int .i64 0] (i64s L), .int .i64 (dxA L a)]) := by
  simp (config := {maxSteps := 2000000}) only [rc22, initM_t, rv22, evC_seq, evC_region, eo_mov, evG_no, Option.getD_some, ev_mov, av_c, gv_int, bind1_some', un1_mov, goOp_some, put_q, evOps_nil, kEnd_at, hasG_no, hasG_nil, kEndB_f, kSeq_n, evC_draw, preK_some, needD_mov, preB_f, needD_nilchk, needD_faddr, needD_load, needD_len, needD_cmp, preK_nil, evD_cons, av_t, upd_at, Nat.reduceEqDiff, initS_at, List.getD_cons_zero, if_false, gv_ptr, evDk_some, newOK_none, Nat.zero_add, ev_nilchk, List.getD_cons_succ, if_true, un1_nilchk, Nat.reduceAdd, ev_faddr, faddr_ptr, ev_load, load_ptr, updM_at, ldB_cells, valOf_one, List.getElem?_cons_succ, List.getElem?_cons_zero, ldV_some, Nat.add_zero, ev_len, gv_lst, len_lst, i64s_len, ev_cmp, cmp2_some, cmp_geq, toR_some', evD_nil, evC_cond, evC_ret, kSeq_r, kRet_r, retOK_eq, retL_cons, retV_t, retL_nil, consO_some, lkR_one, lk1_int, lkT_t, lkB_cells, lkC_cons, lkC0_lst, lkC0_int, lkC_nil, List.nil_append, applyL_nil, retOK_t, rtO_some, resV_one, leV1_int, rtM_cells, leAs_cons, leA_lst, leA_int, leAs_nil, and_true, true_and, knowL_nil, askL_nil, evC_skip, eo_nilchk, eo_faddr, eo_load, eo_arith, ev_arith, bind2_some', arith_add, eo_store, ar_t, vwsT_ptr, frzL_nil, goF_eq, Option.getD_none, ev_store, store_ptr, cells_int, stB_cells, List.length_cons, List.length_nil, Nat.reduceLeDiff, decide_true, stC_true, setC_cons, List.set_cons_succ, List.set_cons_zero, setC_nil, put_s, liveB_cells, needD_arith, needD_iaddrS, needD_call, arith_sub, ev_iaddrS, iaddrS_lst, beq_self_eq_true, iasB_true, gv_ep, load_ep, getE_i64, ev_call, P27, CM, avs_cons, avs_nil, clO_some, call_pure, lends_cons, lend1_int, lends_nil, consL_some', callN_some, callP_some, c2_int, flat2_int, backOK_nil, Bool.and_self, clQ_t, knowD_cons, knowD_nil, knowL_cons, pairD_cons, pairOK_eq, newMen_none, List.contains_cons, Nat.reduceBEq, List.contains_nil, Bool.or_false, Bool.or_true, pairB_t, and_self, pairD_nil, askL_cons, pairB_f, chkR_eq, pslots_int, optN_some, disjN_nil, List.map_nil, newI_none, pslots_ep, pslots_ptr, pslots_lst, List.cons_append, condK_bool]
  intro hl
  refine ⟨fun h => ?_, fun h => ?_⟩
  · have h := of_decide_eq_true h
    exact ⟨AV.int_inj' (by simp only [dxV]; rw [if_neg (by omega)]), AV.int_inj' (by simp only [dxA]; rw [if_neg (by omega)])⟩
  · have h := of_decide_eq_false h
    have e1 : IntKind.i64.wrap (a + 1) = a + 1 := wr_in _ (by omega) (by omega)
    have e2 : IntKind.i64.wrap (a + 1 - 1) = a := by rw [wr_in _ (by omega) (by omega)]; omega
    rw [e1, e2]
    exact ⟨⟨ha, by omega⟩, hn, fun _ => ⟨AV.int_inj' (by simp only [dxV]; rw [if_pos (by omega)]), AV.int_inj' (by simp only [dxA]; rw [if_pos (by omega)])⟩⟩
set_option maxHeartbeats 4000000 in
theorem walk24 {Phi : Nat → Option Ctr} (P22 : Phi 22 = some CDx) (L : List Int) (a n : Int) (ha : 0 ≤ a) (hn : n ≠ 0) : evC Phi (noI) rc24 ⟨initS (.ptr 0 0 :: [.int .i64 n]), initM true [.lst [.int .i64 0] (i64s L), .int .i64 a]⟩ (kRet rv24 (.bool (decide (dxV L a n = W (n - 1)))) true [.lst [.int .i64 0] (i64s L), .int .i64 (dxA L a)]) := by
  simp (config := {maxSteps := 2000000}) only [rc24, initM_t, rv24, W, evC_seq, evC_region, eo_mov, evG_no, Option.getD_some, ev_mov, av_c, gv_bool, bind1_some', un1_mov, goOp_some, put_q, evOps_nil, kEnd_at, hasG_no, hasG_nil, kEndB_f, kSeq_n, av_t, upd_at, Nat.reduceEqDiff, initS_at, List.getD_cons_zero, if_false, gv_ptr, List.getD_cons_succ, gv_int, eo_call, P22, CDx, evCl_mk, ev_call, avs_cons, if_true, avs_nil, consO_some, clO_some, call_state, updM_at, callC_cells, lends_cons, lend1_int, lends_nil, consL_some', List.nil_append, callB_some, List.all_cons, c0_lst, c0_int, List.all_nil, Bool.and_self, decI_i64s, and_self, true_and, callD_t, callS_some, c2_int, flat2_int, flat0_lst, flat0_int, Bool.and_true, Bool.true_and, backOK_nil, clU_t, put_u, liveB_cells, eo_arith, ev_arith, bind2_some', arith_sub, eo_cmp, ev_cmp, cmp2_some, cmp_eql, toR_some', evC_ret, kRet_r, retOK_eq, retL_cons, retV_t, retL_nil, lkR_one, lk1_bool, lkT_t, lkB_cells, lkC_cons, lkC0_lst, Nat.zero_add, lkC0_int, Nat.reduceAdd, lkC_nil, applyL_nil, retOK_t, rtO_some, resV_one, leV1_bool, rtM_cells, leAs_cons, leA_lst, leA_int, leAs_nil, knowL_nil, askL_nil, askL_cons, and_true]
  exact ⟨ha, hn⟩
set_option maxHeartbeats 4000000 in
theorem walk32 {Phi : Nat → Option Ctr} (P22 : Phi 22 = some CDx) (P24 : Phi 24 = some CDb) (L : List Int) (a : Int) (ha : 0 ≤ a) : evC Phi (noI) rc32 ⟨initS (.ptr 0 0 :: []), initM true [.lst [.int .i64 0] (i64s L), .int .i64 a]⟩ (kRet rv32 (.int .u8 (dyV L a)) true [.lst [.int .i64 0] (i64s L), .int .i64 (dyA L a)]) := by
  simp (config := {maxSteps := 2000000}) only [rc32, initM_t, rv32, evC_seq, evC_region, eo_mov, evG_no, Option.getD_some, ev_mov, av_c, gv_int, bind1_some', un1_mov, goOp_some, put_q, evOps_nil, kEnd_at, hasG_no, hasG_nil, kEndB_f, kSeq_n, eo_build, ev_build, fillA_cons, faK_some, cells_int, faC_some, Nat.zero_add, List.length_cons, List.length_nil, Nat.reduceAdd, Nat.reduceLeDiff, setC_cons, List.set_cons_zero, setC_nil, List.set_cons_succ, fillA_nil, if_true, blO_some, eo_alloc, ev_alloc, Nat.reduceMul, put_n, killB_cells, List.map_cons, kill0_int, List.map_nil, eo_store, ar_t, upd_at, Nat.reduceEqDiff, killS_at, initS_at, List.getD_cons_succ, if_false, kill3_agg, vwsT_ptr, frzL_nil, goF_eq, Option.getD_none, ev_store, av_t, gv_ptr, gv_agg, bind2_some', store_ptr, cells_agg, updM_at, killM_at, killO_none, stB_cells, decide_true, stC_true, put_s, liveB_cells, List.getD_cons_zero, kill3_ptr, eo_call, P24, CDb, W, evCl_mk, ev_call, avs_cons, avs_nil, consO_some, clO_some, call_state, killO_some, kill0_lst, callC_cells, lends_cons, lend1_int, lends_nil, consL_some', List.nil_append, callB_some, List.all_cons, c0_lst, c0_int, List.all_nil, Bool.and_self, decI_i64s, and_self, true_and, callD_t, callS_some, c2_bool, flat2_bool, flat0_lst, flat0_int, Bool.and_true, Bool.true_and, backOK_nil, clU_t, put_u, evC_cond, P22, CDx, c2_int, flat2_int, eo_iaddrA, ev_iaddrA, iaA_some, iaddrA_t, Nat.mul_one, eo_load, ev_load, load_ptr, ldB_cells, valOf_one, val_sel8, ldV_some, evC_ret, kSeq_r, kRet_r, retOK_eq, retL_cons, retV_t, kill3_int, retL_nil, lkR_one, lk1_int, lkT_t, lkB_cells, lkC_cons, lkC0_lst, lkC0_int, lkC_nil, applyL_nil, retOK_t, rtO_some, resV_one, leV1_int, rtM_cells, leAs_cons, leA_lst, leA_int, leAs_nil, and_true, knowL_nil, askL_nil, askL_cons, evC_skip, eo_conv, ev_conv, un1_conv, condK_bool]
  refine ⟨⟨ha, by omega⟩, fun h => ?_, fun h => ?_⟩
  · have h : dxV L a 3 = 2 := of_decide_eq_true h
    have b := dx_bd (L := L) (a := dxA L a) (m := 8) (by omega) (by omega)
    exact ⟨⟨dxA_nn ha, by omega⟩, ⟨b.1, b.2⟩, AV.int_inj' (by simp only [dyV, h, if_true]), rfl⟩
  · have h : ¬ dxV L a 3 = 2 := of_decide_eq_false h
    exact ⟨⟨dxA_nn ha, by omega⟩, AV.int_inj' (by simp only [dyV, h, if_false]), rfl⟩
set_option maxHeartbeats 4000000 in
theorem walk23 {Phi : Nat → Option Ctr} (P22 : Phi 22 = some CDx) (P24 : Phi 24 = some CDb) (P32 : Phi 32 = some CDy) (L : List Int) (a : Int) (ha : 0 ≤ a) : evC Phi (noI) rc23 ⟨initS (.ptr 0 0 :: []), initM true [.lst [.int .i64 0] (i64s L), .int .i64 a]⟩ (kRetX rv23 true (fun q : E × Int => ((0 ≤ q.1.time ∧ q.1.time ≤ 4294967295) ∧ 0 ≤ q.2, q.1.av, [.lst [.int .i64 0] (i64s L), .int .i64 q.2]))) := by
  simp (config := {maxSteps := 2000000}) only [rc23, initM_t, rv23, E.av, evC_seq, evC_region, eo_alloc, evG_no, Option.getD_some, ev_alloc, Nat.reduceMul, Nat.reduceAdd, goOp_some, put_n, killB_cells, List.map_cons, kill0_int, kill0_bool, List.map_nil, evOps_nil, kEnd_at, hasG_no, hasG_nil, kEndB_f, kSeq_n, eo_build, ev_build, fillA_cons, av_c, gv_int, faK_some, cells_int, faC_some, Nat.zero_add, List.length_cons, List.length_nil, Nat.reduceLeDiff, setC_cons, List.set_cons_zero, setC_nil, List.set_cons_succ, fillA_nil, if_true, blO_some, put_q, eo_store, ar_t, upd_at, Nat.reduceEqDiff, killS_at, initS_at, List.getD_cons_succ, if_false, kill3_agg, vwsT_ptr, frzL_nil, goF_eq, Option.getD_none, ev_store, av_t, gv_ptr, gv_agg, bind2_some', store_ptr, cells_agg, updM_at, killM_at, killO_none, stB_cells, decide_true, stC_true, put_s, liveB_cells, evC_draw, preK_some, needD_mov, preB_f, needD_call, needD_conv, needD_iaddrA, needD_load, needD_build, needD_alloc, preB_t, preK_none, preK_nil, evD_cons, ev_mov, List.getD_cons_zero, kill3_ptr, bind1_some', un1_mov, evDk_some, newOK_none, ev_call, P22, CDx, avs_cons, avs_nil, consO_some, clO_some, call_state, killO_some, kill0_lst, callC_cells, lends_cons, lend1_int, lends_nil, consL_some', List.nil_append, callB_some, List.all_cons, c0_lst, c0_int, List.all_nil, Bool.and_self, decI_i64s, and_self, true_and, callD_t, callS_some, c2_int, flat2_int, flat0_lst, flat0_int, Bool.and_true, Bool.true_and, backOK_nil, clU_t, put_u, ev_conv, un1_conv, P32, CDy, ev_iaddrA, iaA_some, iaddrA_t, Nat.mul_one, ev_load, load_ptr, ldB_cells, valOf_one, val_sel4, ldV_some, P24, CDb, W, c2_bool, flat2_bool, gv_bool, cells_bool, newOK_some, deadL_nil, evD_nil, eo_mov, eo_call, evCl_mk, evC_cond, eo_faddr, ev_faddr, faddr_ptr, ar_c, eo_load, valOf_agg, valB_true, List.drop_zero, List.take_succ_cons, List.take_zero, evC_ret, kRetX_r, retXG_eq, retX_eq, retL_cons, retV_c, rvP_ptr, rvB_cells, retL_nil, lkR_one, lk1_agg, lkAs_cons, lk0_int, lk0_bool, lkAs_nil, lkT_t, lkB_cells, lkC_cons, lkC0_lst, lkC0_int, lkC_nil, applyL_nil, retX0_eq, resXO_some, resX_one, leX1_agg, leXs_cons, leX0_int, leA_int, leX0_bool, leA_bool, leXs_nil, and_true, pqR_one, pq1_agg, pqL_cons, pq0_int, pq0_bool, pqL_nil, pqK_nil, nodupN_nil, frs2_agg, frsL_cons, frs0_int, frs0_bool, frsL_nil, idsOK_eq, wfRes_one, wfX1_agg, wfX0_int, wfX0_bool, resXT_t, leAs_cons, leA_lst, leAs_nil, knowL_nil, askL_nil, evC_skip, condK_bool, askL_cons, knowD_cons, knowD_nil, pairD_cons, pairOK_eq, newMen_none, List.contains_cons, Nat.reduceBEq, beq_self_eq_true, List.contains_nil, Bool.or_false, Bool.or_true, pairB_t, pairD_nil, newMen_some, noMen_eq, noB_none, pairB_f, chkR_eq, pslots_ptr, optN_some, disjN_nil, pslots_agg, newI_none, newI_some, disjN_cons, Bool.not_false, kill3_int, pslots_int, List.cons_append, kill3_bool, pslots_bool]
  have h1 := dxA_nn (L := L) ha
  have h2 := dxA_nn (L := L) h1
  have h3 := dyA_nn (L := L) h2
  have h4 := dyA_nn (L := L) h3
  have h5 := dxA_nn (L := L) h4
  have h6 := dxA_nn (L := L) h5
  have h7 := dyA_nn (L := L) h6
  have h8 := dyA_nn (L := L) h7
  have h9 := dyA_nn (L := L) h8
  have h10 := dxA_nn (L := L) h9
  have b := dx_bd (L := L) (a := (dyA L (dyA L (dxA L (dxA L a))))) (m := 4) (by omega) (by omega)
  have w3 : ∀ t : Int, (0 ≤ t ∧ t ≤ 4294967295) → (0 ≤ t ∧ t ≤ 4294967295) := fun _ h => h
  exact ⟨⟨ha, by omega⟩, ⟨h1, by omega⟩, h2, h3, ⟨h4, by omega⟩, ⟨b.1, b.2⟩, ⟨h5, by omega⟩, h6, h7, h8, ⟨h9, by omega⟩, fun _ => ⟨(⟨0, 4294967294, IntKind.u16.wrap (dxV L (dxA L a) 65536), dyV L (dxA L (dxA L a)), dyV L (dyA L (dxA L (dxA L a))), ([1, 111, 127, 3] : List Int).getD (sel 4 (dxV L (dyA L (dyA L (dxA L (dxA L a)))) 4)) 0, decide (dxV L (dxA L (dyA L (dyA L (dxA L (dxA L a))))) 2 = IntKind.i64.wrap (2 - 1)), dyV L (dxA L (dxA L (dyA L (dyA L (dxA L (dxA L a)))))), dyV L (dyA L (dxA L (dxA L (dyA L (dyA L (dxA L (dxA L a))))))), dyV L (dyA L (dyA L (dxA L (dxA L (dyA L (dyA L (dxA L (dxA L a))))))))⟩, (dxA L (dyA L (dyA L (dyA L (dxA L (dxA L (dyA L (dyA L (dxA L (dxA L a))))))))))), ⟨(by decide : (0 : Int) ≤ 4294967294 ∧ (4294967294 : Int) ≤ 4294967295), h10⟩, ⟨rfl, rfl, rfl, rfl, rfl, rfl, rfl, rfl, rfl, rfl⟩, rfl⟩, fun _ => ⟨(⟨0, IntKind.u32.wrap (dxV L a 2000000), IntKind.u16.wrap (dxV L (dxA L a) 65536), dyV L (dxA L (dxA L a)), dyV L (dyA L (dxA L (dxA L a))), ([1, 111, 127, 3] : List Int).getD (sel 4 (dxV L (dyA L (dyA L (dxA L (dxA L a)))) 4)) 0, decide (dxV L (dxA L (dyA L (dyA L (dxA L (dxA L a))))) 2 = IntKind.i64.wrap (2 - 1)), dyV L (dxA L (dxA L (dyA L (dyA L (dxA L (dxA L a)))))), dyV L (dyA L (dxA L (dxA L (dyA L (dyA L (dxA L (dxA L a))))))), dyV L (dyA L (dyA L (dxA L (dxA L (dyA L (dyA L (dxA L (dxA L a))))))))⟩, (dxA L (dyA L (dyA L (dyA L (dxA L (dxA L (dyA L (dyA L (dxA L (dxA L a))))))))))), ⟨u32_bd _, h10⟩, ⟨rfl, rfl, rfl, rfl, rfl, rfl, rfl, rfl, rfl, rfl⟩, rfl⟩⟩
end Go.Proofs.Ytmcaedjlglpdeaa
