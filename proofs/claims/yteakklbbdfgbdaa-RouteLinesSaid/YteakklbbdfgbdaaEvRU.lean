/- A part of the proof: symbolic evaluation of the program's functions, proved sound against the model; no condition. -/
import Derived.Test.YteakklbbdfgbdaaEvRV
namespace Go.Proofs.Yteakklbbdfgbdaa
open Go Go.RowKit Go.Ev
set_option linter.unusedSimpArgs false
set_option linter.unusedVariables false
set_option maxRecDepth 20000
structure K8a (u f g : Int) where
  k : Nat
  hk : (k : Int) + 1 ≤ 2 + u.tmod 15
def S8a (u f g : Int) (p : K8a u f g) : SL := ⟨[(1, .int .u8 f), (2, .int .u8 g), (7, .ptr 512 0), (8, .int .i64 p.k)], [(512, .cells [.int .i64 (2 + u.tmod 15), .vw 3200 0 0 0, .lst [.int .u8 0, .int .u8 0, .int .i64 0] (eps [])]), (3200, .buf 45 [.int .u8 0, .int .i64 0, .int .i64 0] (brs (lnB p.k)))]⟩
abbrev L8a (u f g : Int) : LI := ⟨K8a u f g, S8a u f g, fun p => ((2 + u.tmod 15) - p.k).toNat, fun p q => True⟩
theorem L8aS (u f g : Int) : (L8a u f g).S = S8a u f g := rfl
theorem L8aM (u f g : Int) (p : K8a u f g) : (L8a u f g).μ p = ((2 + u.tmod 15) - p.k).toNat := rfl
theorem L8aR (u f g : Int) (p q : K8a u f g) : (L8a u f g).R p q = (True) := rfl
def I8 (u f g : Int) : Nat → LI := fun n => L8a u f g
theorem I8_0 (u f g : Int) : I8 u f g 0 = L8a u f g := rfl
set_option maxHeartbeats 4000000 in
theorem walk8 {Phi : Nat → Option Ctr} (P9 : Phi 9 = some CAw) (P14 : Phi 14 = some CDi) (u f g : Int) (hu : 0 ≤ u ∧ u ≤ 255) (hf : 0 ≤ f ∧ f ≤ 255) (hg : 0 ≤ g ∧ g ≤ 255) : evC Phi (I8 u f g) rc8 ⟨initS [.int .u8 u, .int .u8 f, .int .u8 g], initM false []⟩ (kRet rv8 (.bool true) false []) := by
  simp (config := {maxSteps := 2000000, contextual := true}) only [rc8, initM_f, rv8, evC_seq, evC_region, eo_mov, evG_no, Option.getD_some, ev_mov, av_c, gv_bool, bind1_some', un1_mov, goOp_some, put_q, evOps_nil, kEnd_at, hasG_no, hasG_nil, kEndB_f, kSeq_n, eo_call, P9, CAw, evCl_mk, ev_call, avs_nil, clE_some, callE_pure, lends_nil, callN_some, callP_some, List.nil_append, c2_bool, flat2_bool, backOK_nil, Bool.and_self, clQ_t, eo_not, ev_not, av_t, upd_at, ↓reduceIte, un1_not, Bool.not_true, evC_cond, evC_ret, kSeq_r, kRet_r, retOK_eq, retL_cons, retV_t, retL_nil, consO_some, lkR_one, lk1_bool, lkT_f, applyL_nil, retOK_f, rtO_some, resV_one, leV1_bool, and_true, knowL_nil, askL_nil, evC_skip, Nat.reduceEqDiff, initS_at, List.getD_cons_zero, gv_int, eo_conv, ev_conv, un1_conv, eo_arith, ev_arith, bind2_some', arith_rem, arith_add, eo_build, ev_build, fillA_cons, faK_some, cells_int, faC_some, Nat.zero_add, List.length_cons, List.length_nil, Nat.reduceAdd, Nat.reduceLeDiff, setC_cons, List.set_cons_zero, setC_nil, fillA_nil, blO_some, eo_alloc, ev_alloc, Nat.reduceMul, put_n, killB_cells, List.map_cons, kill0_int, kill0_nil, List.map_nil, eo_store, ar_t, killS_at, kill3_agg, vwsT_ptr, frzL_nil, goF_eq, Option.getD_none, ev_store, gv_ptr, gv_agg, store_ptr, cells_agg, updM_at, stB_cells, decide_true, stC_true, List.set_cons_succ, put_s, liveB_cells, evC_block, evC_loop, I8_0, L8aS, S8a, SL_ge, lkL_cons, List.getD_cons_succ, kill3_int, lkS_int, lkS_ptr, lkL_nil, lkM_cons, lkB_cells, lkC_cons, lkC0_int, lkC0_nil_vw, lookM_cons, nlKc_buf, lkC0_nil_lst, lkC_nil, List.cons_append, killM_at, killO_none, lkB_buf, lkM_nil, applyL_nlc, nlC1_cells, List.getElem?_cons_succ, List.getElem?_cons_zero, nlC2_nil, Nat.reduceLT, Nat.reduceBEq, Bool.not_false, nlR_t, SL_ge0, leL_cons, leV1_int, kill3_ptr, leV1_ptr, leL_nil, true_and, leM_cons, leB_cells, leAs_cons, leA_int, leA_vw, leA_nil, leAs_nil, leB_buf, leM_nil, L8aR, SL_st, lookL_cons, eo_faddr, ev_faddr, faddr_ptr, Nat.add_zero, eo_load, ev_load, load_ptr, ldB_cells, valOf_one, ldV_some, eo_cmp, ev_cmp, cmp2_some, cmp_lss, toR_some', eo_bsliceO, vwsG_cons, vws1_agg, vwsL_cons, vws0_int, vwsL_nil, vwsG_nil, ev_bsliceO, List.replicate_succ, List.replicate_zero, fillS_cons, fsK_some, fsC_some, List.all_cons, c0_int, List.all_nil, and_self, fillS_nil, blO2_some, killB_buf, eo_append, ev_append, kill3_vw, gv_vw, appQR_vw, ysOf_vw, ysV_buf, killO_some, appC_buf, appV_buf, appK_some, brs_len, brs_snoc, cells_vw, kill0_vw, kill0_lst, kBlk_n, kLoop_n, lkC0_vw_vw, beq_self_eq_true, renK_t, lkC0_lst, leA_lst, askL_cons, evC_exit, kSeq_e, kLoop_e, kBlk_e, kBlkB_t, evC_draw, preK_some, needD_mov, preB_f, needD_conv, needD_faddr, needD_load, needD_arith, preK_nil, evD_cons, evDk_some, newOK_none, evD_nil, valOf_agg, valB_true, List.drop_zero, List.take_succ_cons, List.take_zero, P14, CDi, avs_cons, lends_cons, lend1_agg, lendC_cons, lendA_int, lendA_vw, lendB_buf, lendA_lst, lendC_nil, consL_some', aggL_some, lend1_int, decBr_brs, decEp_eps, c2_tup, c1_int, flat2_tup, flat1_int, backOK_cons, gv_tup, eo_extract, ev_extract, un1_extract, arith_sub, eo_minmax, ev_minmax, mmO_some, mm_max, mm_nil, cmp_gtr, cmp_eql, evG_yes, pathG_bool, gG_some, guardR_q, guardL_nil, gv_gd, List.contains_cons, List.contains_nil, Bool.or_false, gvB_true, eo_pick, ev_pick, pick3_some, pickV_bool, Bool.cond_false_right, hasG_yes, kEndB_t, ungdS_at, ungd_bool, condK_bool, knowD_cons, knowD_nil, pairD_cons, pairOK_eq, newMen_none, Bool.or_true, pairB_t, pairD_nil, pairB_f, chkR_eq, pslots_int, optN_some, disjN_nil, newI_none, pslots_ptr, true_imp_iff, Bool.false_eq_true, false_imp_iff]
  have hu15 : u.tmod 15 = u % 15 := tmod_nn _ _ hu.1
  rw [wr_in u (by omega) (by omega), wr_in f (by omega) (by omega), wr_in g (by omega) (by omega), hu15, wr_in (2 + u % 15) (by omega) (by omega)]
  refine ⟨by decide, ⟨0, by rw [hu15]; omega⟩, ⟨rfl, ⟨rfl, rfl⟩, rfl⟩, ?_⟩
  rintro ⟨k, hk⟩
  dsimp only
  rw [hu15] at hk
  have hkk : IntKind.i64.wrap ((k : Int) + 1) = (k : Int) + 1 := wr_in _ (by omega) (by omega)
  rw [hkk, lnB_len]
  refine ⟨fun hc => ?_, fun hc => ⟨by omega, by omega, ?_⟩⟩
  · have hc := of_decide_eq_true hc
    refine ⟨by omega, by omega, ⟨k + 1, by rw [hu15]; omega⟩, ⟨AV.int_inj' (by dsimp only; omega), ?_⟩, by dsimp only; omega⟩
    dsimp only
    rw [← lnB_snoc, wr_in (20 + (k : Int)) (by omega) (by omega), wr_u8 (20 + (k : Int)) (by omega) (by omega)]
  · have hc := of_decide_eq_false hc
    have hN : 2 + u % 15 = (k : Int) + 1 := by omega
    rw [hN, tmod_nn f _ hf.1, tmod_nn g _ hg.1]
    have ha := Int.emod_nonneg f (show (k : Int) + 1 ≠ 0 by omega)
    have ha2 := Int.emod_lt_of_pos f (show 0 < (k : Int) + 1 by omega)
    have hb := Int.emod_nonneg g (show (k : Int) + 1 ≠ 0 by omega)
    have hb2 := Int.emod_lt_of_pos g (show 0 < (k : Int) + 1 by omega)
    generalize f % ((k : Int) + 1) = a at *
    generalize g % ((k : Int) + 1) = b at *
    rw [wr_in (a - b) (by omega) (by omega), wr_in (b - a) (by omega) (by omega)]
    obtain ⟨d, h1, e1, v1⟩ := ds_eq (vl_ln (k := k) (by omega) (by omega)) ⟨ha, ha2⟩ ⟨hb, hb2⟩
    obtain rfl := h1.uniq (isD_ln (k := k) ⟨ha, by omega⟩ ⟨hb, by omega⟩)
    rw [e1, v1]
    refine ⟨fun h => ?_, fun h => ?_⟩
    · have h := of_decide_eq_true h
      rw [far_40 h, if_neg (by decide)]; rfl
    · have h := of_decide_eq_false h
      have c : far (max (a - b) (b - a)) = 0 := far_0.2 (by omega)
      rw [c, if_pos rfl]
      refine AV.bool_inj' ?_
      simp
end Go.Proofs.Yteakklbbdfgbdaa
