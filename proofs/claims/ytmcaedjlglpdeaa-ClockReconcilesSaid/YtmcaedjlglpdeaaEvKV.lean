/- A part of the proof: symbolic evaluation of the program's functions, proved sound against the model; no condition. -/
import Derived.Test.YtmcaedjlglpdeaaEvKN
import Derived.Test.YtmcaedjlglpdeaaEvZ
namespace Go.Proofs.Ytmcaedjlglpdeaa
open Go Go.RowKit Go.Ev
set_option linter.unusedSimpArgs false
set_option linter.unusedVariables false
set_option maxRecDepth 20000
def CJx : Ctr := .ext false (List E) fun _ xs => match xs with
  | [.agg [.int .i64 t, .int .i64 b, .bool s], .int .u32 to] => some ((0 ≤ t ∧ t ≤ 1000000 ∧ b = 0 ∧ s = false) ∧ 0 ≤ to ∧ to ≤ 4294967294, fun P => (P.length = 2, .tup [(adjC ⟨t, b, s⟩ to).av, .fr 0 50 [.int .u16 0, .int .u32 0, .int .u16 0, .int .u8 0, .int .u8 0, .int .u8 0, .bool false, .int .u8 0, .int .u8 0, .int .u8 0] (evs P), .int .i64 (adjE ⟨t, b, s⟩ to)], []))
  | _ => none
theorem evs_setE (l : List E) (i : Nat) (x : E) : (evs l).set i [.int .u16 x.id, .int .u32 x.time, .int .u16 x.gen, .int .u8 x.st, .int .u8 x.sensor, .int .u8 x.ty, .bool x.de, .int .u8 x.d0, .int .u8 x.d1, .int .u8 x.d2] = evs (l.set i x) := by simp [evs, List.map_set, E.cs]
theorem evs_setd (l : List E) (i : Nat) (x : E) (b : Bool) : (evs l).set i [.int .u16 x.id, .int .u32 x.time, .int .u16 x.gen, .int .u8 x.st, .int .u8 x.sensor, .int .u8 x.ty, .bool b, .int .u8 x.d0, .int .u8 x.d1, .int .u8 x.d2] = evs (l.set i { x with de := b }) := by simp [evs, List.map_set, E.cs]
structure K6a (l : List E) (L : List Int) where
  a : Int
  k : Int
  m : List E
  ha : 0 ≤ a
  hk : 0 ≤ k ∧ (m.length : Int) + 2 * k ≤ 40
def S6a (l : List E) (L : List Int) (p : K6a l L) : SL := ⟨[(0, .lst [.int .u16 0, .int .u32 0, .int .u16 0, .int .u8 0, .int .u8 0, .int .u8 0, .bool false, .int .u8 0, .int .u8 0, .int .u8 0] (evs l)), (5, .ptr 1920 0), (6, .vw 3200 0 0 0), (7, .int .i64 p.k)], [(1920, .cells [.lst [.int .i64 0] (i64s L), .int .i64 p.a]), (3200, .buf 50 [.int .u16 0, .int .u32 0, .int .u16 0, .int .u8 0, .int .u8 0, .int .u8 0, .bool false, .int .u8 0, .int .u8 0, .int .u8 0] (evs p.m))]⟩
abbrev L6a (l : List E) (L : List Int) : LI := ⟨K6a l L, S6a l L, fun p => p.k.toNat, fun p q => True⟩
theorem L6aS (l : List E) (L : List Int) : (L6a l L).S = S6a l L := rfl
theorem L6aM (l : List E) (L : List Int) (p : K6a l L) : (L6a l L).μ p = p.k.toNat := rfl
theorem L6aR (l : List E) (L : List Int) (p q : K6a l L) : (L6a l L).R p q = (True) := rfl
structure K6b (l : List E) (L : List Int) where
  i : Nat
  m : List E
  hi : i ≤ 2
  hm : m.length ≤ 100
def S6b (l : List E) (L : List Int) (p : K6b l L) : SL := ⟨[(93, .lst [.nil] [[.lst [.int .u16 0, .int .u32 0, .int .u16 0, .int .u8 0, .int .u8 0, .int .u8 0, .bool false, .int .u8 0, .int .u8 0, .int .u8 0] (evs l)], [.lst [.int .u16 0, .int .u32 0, .int .u16 0, .int .u8 0, .int .u8 0, .int .u8 0, .bool false, .int .u8 0, .int .u8 0, .int .u8 0] (evs p.m)]]), (94, .int .i64 2), (95, .int .i64 p.i)], []⟩
abbrev L6b (l : List E) (L : List Int) : LI := ⟨K6b l L, S6b l L, fun p => 2 - p.i, fun p q => q.m = p.m⟩
theorem L6bS (l : List E) (L : List Int) : (L6b l L).S = S6b l L := rfl
theorem L6bM (l : List E) (L : List Int) (p : K6b l L) : (L6b l L).μ p = 2 - p.i := rfl
theorem L6bR (l : List E) (L : List Int) (p q : K6b l L) : (L6b l L).R p q = (q.m = p.m) := rfl
structure K6c (l : List E) (L : List Int) where
  i : Nat
  m : List E
  x : List Int
  k : Nat
  hi : i < 2
  hk : k ≤ x.length
  hm : m.length ≤ 100
def S6c (l : List E) (L : List Int) (p : K6c l L) : SL := ⟨[(93, .lst [.nil] [[.lst [.int .u16 0, .int .u32 0, .int .u16 0, .int .u8 0, .int .u8 0, .int .u8 0, .bool false, .int .u8 0, .int .u8 0, .int .u8 0] (evs l)], [.lst [.int .u16 0, .int .u32 0, .int .u16 0, .int .u8 0, .int .u8 0, .int .u8 0, .bool false, .int .u8 0, .int .u8 0, .int .u8 0] (evs p.m)]]), (94, .int .i64 2), (95, .int .i64 p.i), (14, .lst [.int .i64 0] (i64s p.x)), (16, .lst [.int .i64 0] (i64s p.x)), (18, .int .i64 p.k)], []⟩
abbrev L6c (l : List E) (L : List Int) : LI := ⟨K6c l L, S6c l L, fun p => p.x.length - p.k, fun p q => q.i = p.i ∧ q.m = p.m⟩
theorem L6cS (l : List E) (L : List Int) : (L6c l L).S = S6c l L := rfl
theorem L6cM (l : List E) (L : List Int) (p : K6c l L) : (L6c l L).μ p = p.x.length - p.k := rfl
theorem L6cR (l : List E) (L : List Int) (p q : K6c l L) : (L6c l L).R p q = (q.i = p.i ∧ q.m = p.m) := rfl
def I6 (l : List E) (L : List Int) : Nat → LI := fun n => if n = 0 then L6a l L else if n = 1 then L6b l L else L6c l L
theorem I6_0 (l : List E) (L : List Int) : I6 l L 0 = L6a l L := rfl
theorem I6_1 (l : List E) (L : List Int) : I6 l L 1 = L6b l L := rfl
theorem I6_2 (l : List E) (L : List Int) : I6 l L 2 = L6c l L := rfl
set_option maxHeartbeats 4000000 in
theorem walk18x {Phi : Nat → Option Ctr} (P15 : Phi 15 = some CV) (P28 : Phi 28 = some CS) (P31 : Phi 31 = some CR) (c : Ck) (to : Int) (hc : 0 ≤ c.t ∧ c.t ≤ 1000000 ∧ c.b = 0 ∧ c.s = false) (h0 : 0 ≤ to) (h1 : to ≤ 4294967294) : evC Phi (noI) rc18 ⟨initS [c.av, .int .u32 to], initM false []⟩ (kRetX rv18 false (fun P : List E => (P.length = 2, .tup [(adjC c to).av, .fr 0 50 [.int .u16 0, .int .u32 0, .int .u16 0, .int .u8 0, .int .u8 0, .int .u8 0, .bool false, .int .u8 0, .int .u8 0, .int .u8 0] (evs P), .int .i64 (adjE c to)], []))) := by
  simp (config := {maxSteps := 2000000}) only [rc18, Ck.av, initM_f, rv18, evC_seq, evC_region, eo_box, evG_no, Option.getD_some, ev_box, av_t, initS_at, List.getD_cons_zero, gv_agg, bind1_some', boxR_eq, cells_agg, List.length_cons, List.length_nil, Nat.zero_add, Nat.reduceAdd, if_true, bxO_some, Nat.reduceMul, goOp_some, put_n, killB_cells, List.map_cons, kill0_int, kill0_bool, List.map_nil, eo_alloc, ev_alloc, eo_mov, ev_mov, av_c, gv_nil, un1_mov, put_q, gv_int, evOps_nil, kEnd_at, hasG_no, hasG_nil, kEndB_f, kSeq_n, eo_load, ev_load, upd_at, Nat.reduceEqDiff, killS_at, List.getD_cons_succ, kill3_ptr, if_false, gv_ptr, load_ptr, updM_at, killM_at, killO_none, killO_some, ldB_cells, valOf_agg, Nat.reduceLeDiff, decide_true, valB_true, List.drop_zero, List.take_succ_cons, List.take_zero, ldV_some, eo_call, P15, CV, evCl_mk, ev_call, avs_cons, avs_nil, consO_some, clO_some, call_pure, lends_cons, lend1_agg, lendC_cons, lendA_int, lendA_bool, lendC_nil, consL_some', List.nil_append, aggL_some, lends_nil, callN_some, Ck.eta, callP_some, c2_bool, flat2_bool, backOK_nil, Bool.and_self, clQ_t, eo_not, ev_not, gv_bool, un1_not, evC_cond, eo_build, ev_build, fillA_nil, blO_some, eo_store, ar_t, vwsT_ptr, frzL_nil, goF_eq, Option.getD_none, ev_store, bind2_some', store_ptr, stB_cells, stC_true, setC_cons, List.set_cons_zero, List.set_cons_succ, setC_nil, put_s, liveB_cells, evC_ret, kSeq_r, kRetX_r, retXG_eq, retX_eq, retL_cons, retV_c, rvP_ptr, rvB_cells, retV_t, retL_nil, lkR_two, lkVs_cons, lk1_agg, lkAs_cons, lk0_int, lk0_bool, lkAs_nil, lk1_nil, lk1_int, lkVs_nil, lkT_f, applyL_nil, retX0_eq, resXO_some, resX_two, leXV_cons, leX1_agg, leXs_cons, leX0_int, leA_int, leX0_bool, leA_bool, leXs_nil, and_true, leX1_fr_nil, leX1_int, leXV_nil, pqR_two, pqV_cons, pq1_agg, pqL_cons, pq0_int, pq0_bool, pqL_nil, pq1_fr_nil, pq1_int, pqV_nil, List.cons_append, pqK_none, pqK_nil, nodupN_nil, List.all_nil, frs2_tup, frsV_cons, frs1_agg, frsL_cons, frs0_int, frs0_bool, frsL_nil, frs1_fr, frs1_int, frsV_nil, idsOK_eq, nodupN_cons, List.contains_nil, Bool.not_false, List.all_cons, Nat.reduceLT, wfRes_two, wfX2_tup, wfX1_agg, wfX0_int, wfX0_bool, wfX1_fr, wfX1_int, resXT_f, knowL_nil, askL_nil, evC_skip, kill3_int, eo_cmp, ev_cmp, cmp2_some, cmp_gtr, toR_some', eo_faddr, ev_faddr, faddr_ptr, Nat.add_zero, valOf_one, List.getElem?_cons_zero, eo_conv, ev_conv, un1_conv, eo_arith, ev_arith, arith_quo, arith_sub, fillA_cons, faK_some, cells_int, faC_some, cells_bool, kill3_agg, evC_draw, preK_some, needD_load, preB_f, needD_call, needD_mov, needD_conv, needD_bsliceO, preB_t, preK_none, preK_nil, evD_cons, evDk_some, newOK_none, P28, CS, c2_int, flat2_int, P31, CR, E.av, lend1_int, c2_agg, c0_int, c0_bool, flat2_agg, flat0_int, flat0_bool, ev_bsliceO, List.replicate_succ, List.replicate_zero, fillS_cons, fsK_some, fsC_some, and_self, fillS_nil, blO2_some, newOK_some, deadL_nil, killB_buf, liveB_buf, gv_vw, evD_nil, kill3_nil, lk1_vw_fr, leX1_fr_vw, leFB_buf, true_and, pq1_fr_vw, pqK_some, knowD_cons, knowD_nil, pairD_cons, pairOK_eq, newMen_none, List.contains_cons, Nat.reduceBEq, beq_self_eq_true, Bool.or_false, Bool.or_true, pairB_t, pairD_nil, pairB_f, chkR_eq, pslots_junk, optN_some, disjN_nil, pslots_vw, optN_none, newI_some, newI_none, disjN_cons, newMen_some, noMen_eq, kill3_junk, noB_none, pslots_agg, askL_cons, pslots_int, condK_bool]
  obtain ⟨hc1, hc2, hc3, hc4⟩ := hc
  have hv : valid c = true := by rw [valid_iff]; refine ⟨hc1, by omega, fun _ => hc3, by omega, by omega, by omega, by omega⟩
  have w1 : IntKind.u32.wrap (IntKind.i64.wrap to) = to := by rw [wr_in _ (by omega) (by omega), wr_u32 _ h0 (by omega)]
  have h3 : decide (4294967294 < to) = false := decide_eq_false (by omega)
  rw [w1, hv, h3]
  refine ⟨fun h => by simp at h, fun _ => ⟨fun h => by simp at h, fun _ => ⟨by decide, [chg (IntKind.u32.wrap (secs c)) 0, chg to 128], rfl, ?_⟩⟩⟩
  simp only [adjC, adjE, adjOK, W, hv, h3]
  simp [evs, E.cs]
set_option maxHeartbeats 4000000 in
theorem walk6 {Phi : Nat → Option Ctr} (P16 : Phi 16 = some CW) (P18 : Phi 18 = some CJx) (P20 : Phi 20 = some CDl) (P21 : Phi 21 = some CRl) (P22 : Phi 22 = some CDx) (P23 : Phi 23 = some CDe) (P24 : Phi 24 = some CDb) (P25 : Phi 25 = some CRx) (P26 : Phi 26 = some CRx) (l : List E) (L : List Int) : evC Phi (I6 l L) rc6 ⟨initS [.lst [.int .u16 0, .int .u32 0, .int .u16 0, .int .u8 0, .int .u8 0, .int .u8 0, .bool false, .int .u8 0, .int .u8 0, .int .u8 0] (evs l), .lst [.int .i64 0] (i64s L)], initM false []⟩ (kRet rv6 (.bool true) false []) := by
  simp (config := {maxSteps := 2000000}) only [rc6, initM_f, rv6, evC_seq, evC_region, eo_mov, evG_no, Option.getD_some, ev_mov, av_c, gv_bool, bind1_some', un1_mov, goOp_some, put_q, evOps_nil, kEnd_at, hasG_no, hasG_nil, kEndB_f, kSeq_n, av_t, upd_at, Nat.reduceEqDiff, initS_at, List.getD_cons_zero, if_false, gv_lst, eo_len, ev_len, List.getD_cons_succ, if_true, len_lst, evs_len, eo_cmp, ev_cmp, gv_int, cmp2_some, cmp_gtr, toR_some', evG_yes, pathG_bool, gG_some, guardR_q, guardL_nil, eo_call_g, ev_call, P20, CDl, avs_cons, gv_gd, List.contains_cons, List.contains_nil, Bool.or_false, List.all_cons, beq_self_eq_true, List.all_nil, Bool.and_self, gvB_true, avs_nil, consO_some, clO_some, call_pure, lends_cons, lend1_lst, lends_nil, consL_some', List.nil_append, callN_some, decI_i64s, and_self, callP_some, c2_bool, flat2_bool, backOK_nil, clQ_t, guardL_cons, pathP_cons, boolOf_bool, pathP_nil, and_true, implies_true, eo_not, ev_not, un1_not, eo_pick, ev_pick, pick3_some, pickV_bool, Bool.cond_true_left, hasG_yes, kEndB_t, evC_cond, eo_call, P16, CW, evCl_mk, ungdS_at, evC_ret, kSeq_r, kRet_r, retOK_eq, retL_cons, retV_t, ungd_bool, retL_nil, lkR_one, lk1_bool, lkT_f, applyL_nil, retOK_f, rtO_some, resV_one, leV1_bool, knowL_nil, askL_nil, askL_cons, evC_skip, ungd_lst, P21, CRl, evCl_ext, evXV_some, evX_f, evXA_some, evXN_some, evXP_eq, wfX2_fp, c0_lst, c0_int, frs2_fp, idsOK_eq, List.map_cons, List.map_nil, nodupN_cons, Bool.not_false, nodupN_nil, Nat.reduceLT, decide_true, flatX2_fp, flat0_lst, flat0_int, Bool.and_true, flatL_cells, flatL_nil, backX_nil, putX_eq, unfr2_fp, Nat.reduceMul, Nat.reduceAdd, Nat.add_zero, addF_cons, addF_nil, putY_eq, killS_at, gv_ptr, gv_nil, P22, CDx, call_state, updM_at, killM_at, killO_none, callC_cells, lend1_int, callB_some, Int.reduceLE, true_and, callD_t, callS_some, c2_int, flat2_int, Bool.true_and, clU_t, put_u, liveB_cells, evC_block, evC_loop, I6_0, L6aS, S6a, SL_ge, lkL_cons, kill3_lst, lkS_lst, lkS_ptr, lkS_nil_vw, lookM_cons, lookM_nil, nlK_buf, lkS_int, lkL_nil, List.cons_append, lkM_cons, lkB_cells, lkC_cons, lkC0_lst, Nat.zero_add, lkC0_int, lkC_nil, lkB_buf, lkM_nil, applyL_nls, nlV_nil, Nat.reduceLeDiff, List.length_cons, List.length_nil, nlP_t, SL_ge0, leL_cons, leV1_lst, kill3_ptr, leV1_ptr, kill3_nil, leV1_vw, kill3_int, leV1_int, leL_nil, leM_cons, killO_some, killB_cells, kill0_lst, kill0_int, leB_cells, leAs_cons, leA_lst, leA_int, leAs_nil, leB_buf, leM_nil, L6aR, SL_st, lookL_cons, lookL_nil, P23, CDe, E.av, eo_alloc, ev_alloc, eo_store, evX_t, evXC_cells, evXB_some, evXM_some, evXS_eq, wfX2_agg, wfX0_int, wfX0_bool, frs2_agg, frsL_cons, frs0_int, frs0_bool, frsL_nil, flatX2_agg, flatX0_int, flatX0_bool, setB_eq, unfr2_agg, unfr0_int, unfr0_bool, put_n, kill0_bool, ar_t, kill3_agg, kill3_junk, vwsT_ptr, frzL_nil, goF_eq, Option.getD_none, ev_store, gv_agg, bind2_some', store_ptr, cells_agg, stB_cells, stC_true, setC_cons, List.set_cons_zero, List.set_cons_succ, setC_nil, put_s, P24, CDb, W, eo_build, ev_build, fillA_cons, faK_some, cells_int, faC_some, fillA_nil, blO_some, eo_conv, ev_conv, un1_conv, P18, CJx, Ck.av, lend1_agg, lendC_cons, lendA_int, lendA_bool, lendC_nil, aggL_some, wfX2_tup, wfX1_agg, wfX1_fr, wfX1_int, frs2_tup, frsV_cons, frs1_agg, frs1_fr, frs1_int, frsV_nil, flatX2_tup, flatX1_agg, flatX1_fr, flatC_int, flatC_bool, flatX1_int, flatL_buf, unfr2_tup, unfr1_agg, unfr1_fr, unfr1_int, gv_tup, eo_extract, ev_extract, un1_extract, List.getElem?_cons_zero, List.getElem?_cons_succ, kill3_vw, gv_vw, len_vw, killB_buf, lenV_buf, cmp_eql, Bool.cond_false_right, evC_draw, preK_some, needD_mov, preB_f, needD_iaddrS, needD_load, preK_none, preK_nil, evD_cons, ungd_vw, evDk_some, newOK_none, ev_iaddrS, ungd_junk, iaddrS_vw, iasV_buf, iasW_t, Int.reduceToNat, ev_load, gv_bp, load_bp, ldP_buf, getE_ev, E.cs, valOf_agg, valB_true, List.drop_zero, List.take_succ_cons, List.take_zero, ldQ_t, store_bp, stP_buf, c0_bool, stQ_t, evs_setd, E.eta, liveB_buf, List.length_set, evD_nil, eo_append, ev_append, appR_vw, ysOf_vw, ysV_buf, appV_buf, appK_some, evs_join, ungd_ptr, eo_arith, ev_arith, arith_sub, eo_iaddrS, eo_faddr, ev_faddr, faddr_bp, eo_load, valOf_one, vwsT_bp, vws1_bool, cells_bool, kBlk_n, ungd_int, kLoop_n, lkS_vw_vw, renK_t, knowL_cons, condK_bool, knowD_cons, knowD_nil, pairD_cons, pairOK_eq, newMen_none, Nat.reduceBEq, Bool.or_true, pairB_t, pairD_nil, pairB_f, chkR_eq, pslots_junk, optN_some, disjN_nil, pslots_vw, optN_none, newI_none, disjN_cons, pslots_bp, pslots_agg, load_ptr, ldB_cells, ldV_some, eo_bsliceO, vwsG_cons, vws1_agg, vwsL_cons, vws0_int, vws0_bool, vwsL_nil, vwsG_nil, ev_bsliceO, List.replicate_succ, List.replicate_zero, fillS_cons, fsK_some, fsC_some, fillS_nil, blO2_some, evs_app, evC_exit, kSeq_e, kLoop_e, kBlk_e, kBlkB_t, vws1_lst, vws1_vw, frzL_cons, frzQ_buf, frzP_t, frzSl_at, frz3_lst, cells_lst, frz3_vw, frz3_junk, frzM_at, frzO_none, I6_1, L6bS, S6b, lkS_vw_lst, applyL_frz, frz3_int, L6bR, cmp_lss, iaddrS_lst, iasB_true, Int.toNat_natCast, gv_ep, load_ep, true_imp_iff]
  intro _ h
  simp only [Bool.or_eq_false_iff, decide_eq_false_iff_not] at h
  intro _
  have hv := dx_bd (L := L) (a := 0) (m := 20) (by omega) (by omega)
  refine ⟨by decide, ⟨dxA L 0, dxV L 0 20, [], dxA_nn (by omega), ⟨by omega, by simp; omega⟩⟩, ⟨rfl, rfl, rfl⟩, ?_⟩
  rintro ⟨a, k, m, ha, hk⟩
  dsimp only
  refine ⟨fun hc => ?_, fun hc => ?_⟩
  · have hc := of_decide_eq_true hc
    have ek : IntKind.i64.wrap (k - 1) = k - 1 := wr_in _ (by omega) (by omega)
    refine ⟨ha, ?_⟩
    rintro ⟨x, q⟩ ⟨hx, hq⟩
    dsimp only at hx hq ⊢
    have n1 := dxA_nn (L := L) hq
    have n2 := dxA_nn (L := L) n1
    have n3 := dxA_nn (L := L) n2
    have n4 := dxA_nn (L := L) n3
    have n5 := dxA_nn (L := L) n4
    refine ⟨⟨hq, by decide⟩, fun _ => ?_, fun _ => ?_⟩
    · have b1 := dx_bd (L := L) (a := dxA L q) (m := 100000) (by omega) (by omega)
      have b2 := dx_bd (L := L) (a := dxA L (dxA L q)) (m := 100000) (by omega) (by omega)
      have ew : IntKind.u32.wrap (dxV L (dxA L (dxA L q)) 100000) = dxV L (dxA L (dxA L q)) 100000 := wr_u32 _ (by omega) (by omega)
      rw [ew]
      refine ⟨⟨n1, by decide⟩, ⟨n2, by decide⟩, ⟨⟨b1.1, by omega⟩, b2.1, by omega⟩, fun P hP => ⟨⟨n3, by decide⟩, fun _ => ?_, fun _ => ?_⟩⟩
      · refine ⟨by omega, by omega, by omega, by omega, by omega, by omega, by omega, by omega, fun _ _ _ _ => ?_⟩
        have hM : (m ++ (P.set 0 (P.getD 1 E0)).set 1 (P.getD 0 E0)).length = m.length + 2 := by simp [hP]
        generalize m ++ (P.set 0 (P.getD 1 E0)).set 1 (P.getD 0 E0) = M at hM ⊢
        have eW : (IntKind.i64.wrap ((M.length : Int) - 1)).toNat < M.length ∧ 0 ≤ IntKind.i64.wrap ((M.length : Int) - 1) ∧ IntKind.i64.wrap ((M.length : Int) - 1) < M.length := by
          rw [wr_in _ (by omega) (by omega)]; omega
        refine ⟨by omega, by omega, ⟨n4, by decide⟩, fun _ _ _ => ⟨eW.2, fun _ => ⟨eW.1, eW.2, fun _ => ⟨eW.1, ?_⟩⟩⟩, fun _ => ⟨⟨dxA L (dxA L (dxA L (dxA L (dxA L q)))), k - 1, M, n5, ⟨by omega, by omega⟩⟩, ⟨AV.int_inj' ek, rfl, rfl⟩, by dsimp only; omega⟩⟩
        generalize (IntKind.i64.wrap ((M.length : Int) - 1)).toNat = u
        refine ⟨⟨dxA L (dxA L (dxA L (dxA L (dxA L q)))), k - 1, M.set u { M.getD u E0 with de := !(M.getD u E0).de }, n5, ⟨by omega, by rw [List.length_set]; omega⟩⟩, ⟨AV.int_inj' ek, rfl, rfl⟩, by dsimp only; omega⟩
      · have hM : (m ++ P).length = m.length + 2 := by simp [hP]
        generalize m ++ P = M at hM ⊢
        have eW : (IntKind.i64.wrap ((M.length : Int) - 1)).toNat < M.length ∧ 0 ≤ IntKind.i64.wrap ((M.length : Int) - 1) ∧ IntKind.i64.wrap ((M.length : Int) - 1) < M.length := by
          rw [wr_in _ (by omega) (by omega)]; omega
        refine ⟨by omega, by omega, ⟨n4, by decide⟩, fun _ _ _ => ⟨eW.2, fun _ => ⟨eW.1, eW.2, fun _ => ⟨eW.1, ?_⟩⟩⟩, fun _ => ⟨⟨dxA L (dxA L (dxA L (dxA L (dxA L q)))), k - 1, M, n5, ⟨by omega, by omega⟩⟩, ⟨AV.int_inj' ek, rfl, rfl⟩, by dsimp only; omega⟩⟩
        generalize (IntKind.i64.wrap ((M.length : Int) - 1)).toNat = u
        refine ⟨⟨dxA L (dxA L (dxA L (dxA L (dxA L q)))), k - 1, M.set u { M.getD u E0 with de := !(M.getD u E0).de }, n5, ⟨by omega, by rw [List.length_set]; omega⟩⟩, ⟨AV.int_inj' ek, rfl, rfl⟩, by dsimp only; omega⟩
    · have hM : (m ++ [x]).length = m.length + 1 := by simp
      generalize m ++ [x] = M at hM ⊢
      have eW : (IntKind.i64.wrap ((M.length : Int) - 1)).toNat < M.length ∧ 0 ≤ IntKind.i64.wrap ((M.length : Int) - 1) ∧ IntKind.i64.wrap ((M.length : Int) - 1) < M.length := by
        rw [wr_in _ (by omega) (by omega)]; omega
      refine ⟨by omega, by omega, ⟨n1, by decide⟩, fun _ _ _ => ⟨eW.2, fun _ => ⟨eW.1, eW.2, fun _ => ⟨eW.1, ?_⟩⟩⟩, fun _ => ⟨⟨dxA L (dxA L q), k - 1, M, n2, ⟨by omega, by omega⟩⟩, ⟨AV.int_inj' ek, rfl, rfl⟩, by dsimp only; omega⟩⟩
      generalize (IntKind.i64.wrap ((M.length : Int) - 1)).toNat = u
      refine ⟨⟨dxA L (dxA L q), k - 1, M.set u { M.getD u E0 with de := !(M.getD u E0).de }, n2, ⟨by omega, by rw [List.length_set]; omega⟩⟩, ⟨AV.int_inj' ek, rfl, rfl⟩, by dsimp only; omega⟩
  · refine ⟨⟨0, m, by omega, by omega⟩, ⟨rfl, rfl, rfl⟩, ?_⟩
    rintro ⟨i, M, hi, hM⟩ hR hlt
    have hlt := of_decide_eq_true hlt
    dsimp only at hR hlt ⊢
    subst hR
    refine ⟨⟨by omega, by omega⟩, ?_⟩
    have hi2 : i = 0 ∨ i = 1 := by omega
    rcases hi2 with rfl | rfl
    · simp (config := {maxSteps := 2000000}) only [getE_lit0, List.getElem?_cons_zero, ldV_some, goOp_some, put_q, eo_mov, evG_no, Option.getD_some, ev_mov, av_t, upd_at, Nat.reduceEqDiff, lookL_cons, lookL_nil, if_false, if_true, gv_lst, bind1_some', un1_mov, evOps_nil, kEnd_at, hasG_no, hasG_nil, kEndB_f, kSeq_n, evC_seq, evC_region, eo_call, P25, CRx, evCl_ext, avs_cons, avs_nil, consO_some, evXV_some, evX_f, lends_cons, lend1_lst, lends_nil, consL_some', List.nil_append, evXA_some, decE_evs, and_self, evs_len, true_and, evXN_some, evXP_eq, wfX2_tup, List.all_cons, wfX1_lst, wfX1_int, List.all_nil, Bool.and_self, frs2_tup, frsV_cons, frs1_lst, frs1_int, frsV_nil, idsOK_eq, List.map_nil, nodupN_nil, flatX2_tup, flatX1_lst, flatX1_int, Bool.and_true, flatL_nil, backX_nil, putX_eq, unfr2_tup, List.map_cons, unfr1_lst, unfr1_int, addF_nil, putY_eq, gv_tup, eo_extract, ev_extract, un1_extract, toR_some', List.getElem?_cons_succ, gv_int, P26, eo_cmp, ev_cmp, cmp2_some, cmp_neq, decide_true, Bool.not_true, gv_bool, evG_yes, pathG_bool, gG_some, guardR_q, guardL_nil, eo_len, ev_len, gv_gd, List.contains_cons, List.contains_nil, Bool.or_false, beq_self_eq_true, gvB_true, len_lst, i64s_len, eo_pick, ev_pick, av_c, pick3_some, pickV_bool, Bool.cond_false_right, hasG_yes, kEndB_t, evC_cond, evC_ret, kSeq_r, kBlk_r, kLoop_r, kRet_r, retOK_eq, retL_cons, retV_t, ungdS_at, ungd_junk, retL_nil, lkR_one, lk1_bool, lkT_f, applyL_nil, retOK_f, rtO_some, resV_one, leV1_bool, and_true, knowL_nil, askL_nil, evC_skip, evC_block, evC_loop, I6_2, L6cS, S6c, SL_ge, lkL_cons, ungd_lst, lkS_lst, ungd_int, lkS_int, lkL_nil, lkM_nil, SL_ge0, leL_cons, leV1_lst, leV1_int, leL_nil, leM_nil, L6cR, SL_st, cmp_lss, evC_draw, preK_some, needD_mov, preB_f, needD_iaddrS, needD_load, needD_cmp, preK_nil, evD_cons, evDk_some, newOK_none, Nat.zero_add, Nat.reduceAdd, ev_iaddrS, bind2_some', iaddrS_lst, List.length_cons, List.length_nil, iasB_true, Int.toNat_natCast, ev_load, gv_ep, load_ep, getE_i64, valOf_one, evD_nil, kBlk_n, eo_arith, ev_arith, arith_add, kLoop_n, ar_t, condK_bool, Bool.false_eq_true, false_imp_iff, true_imp_iff, knowD_cons, knowD_nil, knowL_cons, pairD_cons, pairOK_eq, newMen_none, Nat.reduceBEq, Bool.or_true, pairB_t, pairD_nil, pairB_f, chkR_eq, pslots_int, optN_some, disjN_nil, newI_none, pslots_ep, pslots_lst, askL_cons, evC_exit, kSeq_e, kLoop_e, kBlk_e, kBlkB_t, S6b, ungd_bool]
      refine ⟨by omega, fun _ => ⟨by omega, fun _ => ⟨⟨0, M, recL l, 0, by omega, by omega, hM⟩, ⟨rfl, rfl, rfl, rfl, rfl⟩, ?_⟩⟩⟩
      rintro ⟨i, m', x, k', hi', hk', hm'⟩ ⟨hR1, hR2⟩ hx
      dsimp only at hR1 hR2 hx ⊢
      refine ⟨fun hc => ?_, fun hc => ?_⟩
      · have hc := of_decide_eq_true hc
        exact ⟨⟨by omega, by omega⟩, ⟨by omega, by omega⟩, fun _ _ => ⟨⟨i, m', x, k' + 1, hi', by omega, hm'⟩, ⟨rfl, rfl, rfl, rfl, AV.int_inj' (wr_succ k' (by omega))⟩, ⟨hR1, hR2⟩, by dsimp only; omega⟩⟩
      · exact ⟨⟨i + 1, m', by omega, hm'⟩, ⟨rfl, AV.int_inj' (wr_succ i (by omega))⟩, hR2, by dsimp only; omega⟩
    · simp (config := {maxSteps := 2000000}) only [getE_lit1, List.getElem?_cons_zero, ldV_some, goOp_some, put_q, eo_mov, evG_no, Option.getD_some, ev_mov, av_t, upd_at, Nat.reduceEqDiff, lookL_cons, lookL_nil, if_false, if_true, gv_lst, bind1_some', un1_mov, evOps_nil, kEnd_at, hasG_no, hasG_nil, kEndB_f, kSeq_n, evC_seq, evC_region, eo_call, P25, CRx, evCl_ext, avs_cons, avs_nil, consO_some, evXV_some, evX_f, lends_cons, lend1_lst, lends_nil, consL_some', List.nil_append, evXA_some, decE_evs, and_self, evs_len, true_and, evXN_some, evXP_eq, wfX2_tup, List.all_cons, wfX1_lst, wfX1_int, List.all_nil, Bool.and_self, frs2_tup, frsV_cons, frs1_lst, frs1_int, frsV_nil, idsOK_eq, List.map_nil, nodupN_nil, flatX2_tup, flatX1_lst, flatX1_int, Bool.and_true, flatL_nil, backX_nil, putX_eq, unfr2_tup, List.map_cons, unfr1_lst, unfr1_int, addF_nil, putY_eq, gv_tup, eo_extract, ev_extract, un1_extract, toR_some', List.getElem?_cons_succ, gv_int, P26, eo_cmp, ev_cmp, cmp2_some, cmp_neq, decide_true, Bool.not_true, gv_bool, evG_yes, pathG_bool, gG_some, guardR_q, guardL_nil, eo_len, ev_len, gv_gd, List.contains_cons, List.contains_nil, Bool.or_false, beq_self_eq_true, gvB_true, len_lst, i64s_len, eo_pick, ev_pick, av_c, pick3_some, pickV_bool, Bool.cond_false_right, hasG_yes, kEndB_t, evC_cond, evC_ret, kSeq_r, kBlk_r, kLoop_r, kRet_r, retOK_eq, retL_cons, retV_t, ungdS_at, ungd_junk, retL_nil, lkR_one, lk1_bool, lkT_f, applyL_nil, retOK_f, rtO_some, resV_one, leV1_bool, and_true, knowL_nil, askL_nil, evC_skip, evC_block, evC_loop, I6_2, L6cS, S6c, SL_ge, lkL_cons, ungd_lst, lkS_lst, ungd_int, lkS_int, lkL_nil, lkM_nil, SL_ge0, leL_cons, leV1_lst, leV1_int, leL_nil, leM_nil, L6cR, SL_st, cmp_lss, evC_draw, preK_some, needD_mov, preB_f, needD_iaddrS, needD_load, needD_cmp, preK_nil, evD_cons, evDk_some, newOK_none, Nat.zero_add, Nat.reduceAdd, ev_iaddrS, bind2_some', iaddrS_lst, List.length_cons, List.length_nil, iasB_true, Int.toNat_natCast, ev_load, gv_ep, load_ep, getE_i64, valOf_one, evD_nil, kBlk_n, eo_arith, ev_arith, arith_add, kLoop_n, ar_t, condK_bool, Bool.false_eq_true, false_imp_iff, true_imp_iff, knowD_cons, knowD_nil, knowL_cons, pairD_cons, pairOK_eq, newMen_none, Nat.reduceBEq, Bool.or_true, pairB_t, pairD_nil, pairB_f, chkR_eq, pslots_int, optN_some, disjN_nil, newI_none, pslots_ep, pslots_lst, askL_cons, evC_exit, kSeq_e, kLoop_e, kBlk_e, kBlkB_t, S6b, ungd_bool]
      refine ⟨by omega, fun _ => ⟨by omega, fun _ => ⟨⟨1, M, recL M, 0, by omega, by omega, hM⟩, ⟨rfl, rfl, rfl, rfl, rfl⟩, ?_⟩⟩⟩
      rintro ⟨i, m', x, k', hi', hk', hm'⟩ ⟨hR1, hR2⟩ hx
      dsimp only at hR1 hR2 hx ⊢
      refine ⟨fun hc => ?_, fun hc => ?_⟩
      · have hc := of_decide_eq_true hc
        exact ⟨⟨by omega, by omega⟩, ⟨by omega, by omega⟩, fun _ _ => ⟨⟨i, m', x, k' + 1, hi', by omega, hm'⟩, ⟨rfl, rfl, rfl, rfl, AV.int_inj' (wr_succ k' (by omega))⟩, ⟨hR1, hR2⟩, by dsimp only; omega⟩⟩
      · exact ⟨⟨i + 1, m', by omega, hm'⟩, ⟨rfl, AV.int_inj' (wr_succ i (by omega))⟩, hR2, by dsimp only; omega⟩
end Go.Proofs.Ytmcaedjlglpdeaa
