/- A part of the proof: symbolic evaluation of the program's functions, proved sound against the model; no condition. -/
import Derived.Test.YteakklbbdfgbdaaEvRZ
namespace Go.Proofs.Yteakklbbdfgbdaa
open Go Go.RowKit Go.Ev
set_option linter.unusedSimpArgs false
set_option linter.unusedVariables false
set_option maxRecDepth 20000
structure K6a (L : List Int) where
  m : Nt
  b : Br
  hv : vl m = 0
  hw : vl ⟨m.N, m.bs ++ [b], m.es⟩ = 0
  x : Nat
  hx : (x : Int) ≤ m.N
def S6a (L : List Int) (p : K6a L) : SL := ⟨[(8, .ptr 576 0), (9, .ptr 640 0), (10, .int .i64 p.x)], [(576, .cells [.int .i64 p.m.N, .lst [.int .u8 0, .int .i64 0, .int .i64 0] (brs p.m.bs), .lst [.int .u8 0, .int .u8 0, .int .i64 0] (eps p.m.es)]), (640, .cells [.int .i64 p.m.N, .vw 2496 0 0 0, .lst [.int .u8 0, .int .u8 0, .int .i64 0] (eps p.m.es)]), (2496, .buf 45 [.int .u8 0, .int .i64 0, .int .i64 0] (brs (p.m.bs ++ [p.b])))]⟩
abbrev L6a (L : List Int) : LI := ⟨K6a L, S6a L, fun p => (p.m.N - p.x).toNat, fun p q => True⟩
theorem L6aS (L : List Int) : (L6a L).S = S6a L := rfl
theorem L6aM (L : List Int) (p : K6a L) : (L6a L).μ p = (p.m.N - p.x).toNat := rfl
theorem L6aR (L : List Int) (p q : K6a L) : (L6a L).R p q = (True) := rfl
structure K6b (L : List Int) where
  m : Nt
  b : Br
  hv : vl m = 0
  hw : vl ⟨m.N, m.bs ++ [b], m.es⟩ = 0
  x : Nat
  y : Nat
  hx : (x : Int) < m.N
  hy : (y : Int) ≤ m.N
def S6b (L : List Int) (p : K6b L) : SL := ⟨[(8, .ptr 576 0), (9, .ptr 640 0), (10, .int .i64 p.x), (11, .int .i64 p.y)], [(576, .cells [.int .i64 p.m.N, .lst [.int .u8 0, .int .i64 0, .int .i64 0] (brs p.m.bs), .lst [.int .u8 0, .int .u8 0, .int .i64 0] (eps p.m.es)]), (640, .cells [.int .i64 p.m.N, .vw 2496 0 0 0, .lst [.int .u8 0, .int .u8 0, .int .i64 0] (eps p.m.es)]), (2496, .buf 45 [.int .u8 0, .int .i64 0, .int .i64 0] (brs (p.m.bs ++ [p.b])))]⟩
abbrev L6b (L : List Int) : LI := ⟨K6b L, S6b L, fun p => (p.m.N - p.y).toNat, fun p q => q.m = p.m ∧ q.b = p.b ∧ q.x = p.x⟩
theorem L6bS (L : List Int) : (L6b L).S = S6b L := rfl
theorem L6bM (L : List Int) (p : K6b L) : (L6b L).μ p = (p.m.N - p.y).toNat := rfl
theorem L6bR (L : List Int) (p q : K6b L) : (L6b L).R p q = (q.m = p.m ∧ q.b = p.b ∧ q.x = p.x) := rfl
def I6 (L : List Int) : Nat → LI := fun n => if n = 0 then L6a L else L6b L
theorem I6_0 (L : List Int) : I6 L 0 = L6a L := rfl
theorem I6_1 (L : List Int) : I6 L 1 = L6b L := rfl
set_option maxHeartbeats 4000000 in
theorem walk6 {Phi : Nat → Option Ctr} (P9 : Phi 9 = some CAw) (P10 : Phi 10 = some DCo) (P11 : Phi 11 = some DNw) (P16 : Phi 16 = some CVl) (P14 : Phi 14 = some CDi) (L : List Int) (f g : Int) (hL : Okb L) (hf : 0 ≤ f ∧ f ≤ 255) (hg : 0 ≤ g ∧ g ≤ 255) : evC Phi (I6 L) rc6 ⟨initS [.lst [.int .u8 0] (u8s L), .int .u8 f, .int .u8 g], initM false []⟩ (kRet rv6 (.bool true) false []) := by
  simp (config := {maxSteps := 2000000, contextual := true}) only [rc6, initM_f, rv6, evC_seq, evC_region, eo_mov, evG_no, Option.getD_some, ev_mov, av_c, gv_bool, bind1_some', un1_mov, goOp_some, put_q, evOps_nil, kEnd_at, hasG_no, hasG_nil, kEndB_f, kSeq_n, eo_call, P9, CAw, evCl_mk, ev_call, avs_nil, clE_some, callE_pure, lends_nil, callN_some, callP_some, List.nil_append, c2_bool, flat2_bool, backOK_nil, Bool.and_self, clQ_t, eo_not, ev_not, av_t, upd_at, ↓reduceIte, un1_not, Bool.not_true, evC_cond, evC_ret, kSeq_r, kRet_r, retOK_eq, retL_cons, retV_t, retL_nil, consO_some, lkR_one, lk1_bool, lkT_f, applyL_nil, retOK_f, rtO_some, resV_one, leV1_bool, and_true, knowL_nil, askL_nil, evC_skip, Nat.reduceEqDiff, initS_at, List.getD_cons_zero, gv_lst, P10, DCo, evCl_ext, avs_cons, gv_int, evXV_some, evX_f, lends_cons, lend1_lst, lend1_int, consL_some', evXA_some, decU_u8s, and_self, Int.reduceLE, Int.reduceToNat, evXN_some, evXP_eq, wfX2_fp, List.all_cons, c0_lst, c0_int, List.all_nil, frs2_fp, idsOK_eq, List.map_cons, List.map_nil, nodupN_cons, List.contains_nil, Bool.not_false, nodupN_nil, Nat.reduceLT, decide_true, flatX2_fp, flat0_lst, flat0_int, Bool.and_true, flatL_cells, flatL_nil, evOpsk_at, backX_nil, putX_eq, unfr2_fp, Nat.reduceMul, Nat.reduceAdd, Nat.add_zero, addF_cons, addF_nil, putY_eq, gv_ptr, P11, DNw, Nt.av, evX_t, updM_at, evXC_cells, evXB_some, u8s_len, true_and, evXM_some, evXS_eq, wfX2_agg, wfX0_int, wfX0_lst, frs2_agg, frsL_cons, frs0_int, frs0_lst, frsL_nil, flatX2_agg, flatX0_int, flatX0_lst, Bool.true_and, eo_alloc, ev_alloc, eo_store, setB_eq, unfr2_agg, unfr0_int, unfr0_lst, put_n, killB_cells, kill0_int, kill0_nil, ar_t, killS_at, kill3_agg, kill0_lst, vwsT_ptr, frzL_nil, goF_eq, Option.getD_none, ev_store, gv_agg, bind2_some', store_ptr, cells_agg, List.length_cons, List.length_nil, Nat.zero_add, stB_cells, Nat.reduceLeDiff, stC_true, setC_cons, List.set_cons_zero, List.set_cons_succ, setC_nil, put_s, liveB_cells, eo_load, ev_load, load_ptr, ldB_cells, valOf_agg, valB_true, List.drop_zero, List.take_succ_cons, List.take_zero, ldV_some, evC_draw, preK_some, needD_faddr, preB_f, needD_load, needD_appD, preB_t, needD_mov, needD_conv, needD_arith, needD_build, needD_bslice, preK_none, preK_nil, evD_cons, ev_faddr, kill3_ptr, faddr_ptr, evDk_some, newOK_none, killM_at, killO_some, valOf_one, List.getElem?_cons_succ, List.getElem?_cons_zero, ev_appD, gv_nil, appDR_nil, appR_nil, ysOf_lst, appK_some, brs_len, newOK_some, deadL_nil, killB_buf, liveB_buf, List.getD_cons_succ, kill3_int, ev_conv, un1_conv, ev_arith, arith_rem, ev_build, fillA_cons, faK_some, cells_int, faC_some, fillA_nil, blO_some, ev_bslice, List.replicate_succ, List.replicate_zero, fillS_cons, fsK_some, fsC_some, fillS_nil, blS_some, gv_vw, appDR_vw, Nat.reduceBEq, appDV_buf, appDK_some, brs_snoc, List.cons_append, deadL_dead, put_nd, cells_vw, evD_nil, P16, CVl, lend1_agg, lendC_cons, lendA_int, lendA_lst, lendC_nil, aggL_some, decBr_brs, decEp_eps, Nt.eta, c2_int, flat2_int, eo_cmp, ev_cmp, cmp2_some, cmp_neq, toR_some', evG_yes, pathG_bool, gG_some, guardR_q, guardL_nil, eo_call_g, gv_gd, List.contains_cons, Bool.or_false, beq_self_eq_true, gvB_true, lendA_vw, lendB_buf, backOK_cons, guardL_cons, pathP_cons, boolOf_bool, pathP_nil, implies_true, eo_pick, ev_pick, pick3_some, pickV_bool, Bool.cond_true_left, hasG_yes, kEndB_t, evC_block, evC_loop, I6_0, L6aS, S6a, SL_ge, lkL_cons, ungdS_at, ungd_ptr, lkS_ptr, lkS_int, lkL_nil, lkM_cons, lkB_cells, lkC_cons, lkC0_int, lkC0_lst, lkC_nil, lkC0_vw_vw, renK_t, lkB_buf, lkM_nil, SL_ge0, leL_cons, leV1_ptr, leV1_int, leL_nil, leM_cons, leB_cells, leAs_cons, leA_int, leA_lst, leAs_nil, leA_vw, leB_buf, leM_nil, L6aR, SL_st, lookL_cons, eo_faddr, lookM_cons, cmp_lss, I6_1, L6bS, S6b, L6bR, P14, CDi, c2_tup, c1_int, flat2_tup, flat1_int, gv_tup, eo_extract, ev_extract, un1_extract, cmp_eql, pathG_gd, Bool.true_or, Bool.or_true, cmp_gtr, Bool.cond_false_right, kBlk_r, kLoop_r, kBlk_n, ungd_int, eo_arith, arith_add, kLoop_n, ungd_bool, condK_bool, askL_cons, evC_exit, kSeq_e, kLoop_e, kBlk_e, kBlkB_t, true_imp_iff, knowD_cons, knowD_nil, pairD_cons, pairOK_eq, newMen_none, pairB_t, pairD_nil, newMen_some, noMen_eq, kill3_lst, noB_none, kill3_vw, noB_some, pairB_f, chkR_eq, pslots_lst, optN_some, disjN_nil, pslots_vw, newI_some, newI_none, disjN_cons, pslots_ptr, pslots_agg, pslots_int, Bool.false_eq_true, false_imp_iff]
  intro _
  have hl : (L.take 120).length ≤ 100000 := by rw [List.length_take]; omega
  have hO := hL.take 120
  refine ⟨⟨hl, hO⟩, ?_⟩
  rintro ⟨m, a⟩ ⟨W, ha⟩
  dsimp only at *
  have hN := W.N
  have hb := W.b
  refine ⟨by omega, by omega, by omega, by omega, by omega, by omega, fun h => ?_⟩
  simp only [Bool.or_eq_false_iff, Bool.not_eq_false', decide_eq_true_eq] at h
  refine ⟨⟨m, ⟨100, (IntKind.i64.wrap f).tmod m.N, (IntKind.i64.wrap g).tmod m.N⟩, h.1, h.2, 0, by omega⟩, ⟨rfl, ⟨rfl, rfl, rfl⟩, ⟨rfl, rfl⟩, rfl⟩, ?_⟩
  clear h hN hb W ha a m
  rintro ⟨m, b, hv, hw, x, hx⟩
  dsimp only
  intro hc
  have hc := of_decide_eq_true hc
  have O := vl_ok hv
  have hN := O.N
  refine ⟨⟨m, b, hv, hw, x, 0, hc, by omega⟩, ⟨⟨rfl, rfl⟩, ⟨rfl, rfl, rfl⟩, ⟨rfl, rfl⟩, rfl⟩, ?_⟩
  rintro ⟨m2, b2, hv2, hw2, x2, y, hx2, hy⟩ ⟨q1, q2, q3⟩
  dsimp only at q1 q2 q3 ⊢
  subst q1 q2 q3
  refine ⟨fun hc => ?_, fun hc => ?_⟩
  · have hc := of_decide_eq_true hc
    obtain ⟨d, h1, e1, v1⟩ := ds_eq hv2 (a := x2) (b := y) ⟨by omega, hx2⟩ ⟨by omega, hc⟩
    obtain ⟨d2, h2, e2, v2⟩ := ds_eq hw2 (a := x2) (b := y) ⟨by omega, hx2⟩ ⟨by omega, hc⟩
    have key : (decide (dsE m2 x2 y = 0) && (!decide (dsE ⟨m2.N, m2.bs ++ [b2], m2.es⟩ x2 y = 0) || decide (dsV m2 x2 y < dsV ⟨m2.N, m2.bs ++ [b2], m2.es⟩ x2 y))) = false := by
      rw [e1, e2, v1, v2]
      by_cases c : far d = 0
      · have f1 := far_0.1 c
        have t := h1.mono (fun q hq => List.mem_append_left [b2] hq) h2 f1.1
        have c2 : far d2 = 0 := far_0.2 (by omega)
        rw [c, c2, if_pos rfl, if_pos rfl]
        simp
        exact t.2
      · rw [decide_eq_false c]; rfl
    refine ⟨fun h => (by rw [key] at h; cases h), fun _ => ⟨⟨m2, b2, hv2, hw2, x2, y + 1, hx2, by omega⟩, ⟨⟨rfl, AV.int_inj' (wr_succ y (by omega))⟩, ⟨rfl, rfl, rfl⟩, ⟨rfl, rfl⟩, rfl⟩, ⟨rfl, rfl, rfl⟩, by dsimp only; omega⟩⟩
  · exact ⟨⟨m2, b2, hv2, hw2, x2 + 1, by omega⟩, ⟨AV.int_inj' (wr_succ x2 (by omega)), ⟨rfl, rfl, rfl⟩, ⟨rfl, rfl⟩, rfl⟩, by dsimp only; omega⟩
end Go.Proofs.Yteakklbbdfgbdaa
