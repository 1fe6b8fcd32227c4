/- A part of the proof: symbolic evaluation of the program's functions, proved sound against the model; no condition. -/
import Derived.Test.YtfmndopgbikgjaaEvGE
namespace Go.Proofs.Ytfmndopgbikgjaa
open Go Go.RowKit Go.Ev
set_option linter.unusedSimpArgs false
set_option linter.unusedVariables false
set_option maxRecDepth 20000
theorem fdS_cut (s : Es) (l : List Int) (k : Nat) : fdS (fdS s (l.take k)) (l.drop k) = fdS s l := by rw [← fdS_app, List.take_append_drop]
theorem fdO_cut (s : Es) (l : List Int) (k : Nat) : fdO s (l.take k) ++ fdO (fdS s (l.take k)) (l.drop k) = fdO s l := by rw [← fdO_app, List.take_append_drop]
theorem fdA_cut (s : Es) (l : List Int) (k : Nat) : fdA s (l.take k) ++ fdA (fdS s (l.take k)) (l.drop k) = fdA s l := by rw [← fdA_app, List.take_append_drop]
structure K3a (L : List Int) (s : Es) (k : Nat) where
  i : Nat
  hi : i ≤ (shp L).length
def S3a (L : List Int) (s : Es) (k : Nat) (p : K3a L s k) : SL := ⟨[(9, .ptr 640 0), (10, .lst [.int .u8 0] (u8s (fdO s (shp L)))), (11, .lst [.int .i64 0] (i64s (fdA s (shp L)))), (12, .ptr 832 0), (13, .lst [.int .u8 0] (u8s (fdO s ((shp L).take k)))), (14, .lst [.int .i64 0] (i64s (fdA s ((shp L).take k)))), (15, .lst [.int .u8 0] (u8s (fdO (fdS s ((shp L).take k)) ((shp L).drop k)))), (16, .lst [.int .i64 0] (i64s (fdA (fdS s ((shp L).take k)) ((shp L).drop k)))), (17, .ptr 1152 0), (18, .vw 3200 0 0 0), (61, .lst [.int .u8 0] (u8s (shp L))), (62, .int .i64 (shp L).length), (63, .int .i64 p.i)], [(640, .cells (fdS s (shp L)).cs), (832, .cells (fdS (fdS s ((shp L).take k)) ((shp L).drop k)).cs), (1152, .cells (fdS s ((shp L).take p.i)).cs), (3200, .buf 5 [.int .u8 0] (u8s (fdO s ((shp L).take p.i))))]⟩
abbrev L3a (L : List Int) (s : Es) (k : Nat) : LI := ⟨K3a L s k, S3a L s k, fun p => (shp L).length - p.i, fun p q => True⟩
theorem L3aS (L : List Int) (s : Es) (k : Nat) : (L3a L s k).S = S3a L s k := rfl
theorem L3aM (L : List Int) (s : Es) (k : Nat) (p : K3a L s k) : (L3a L s k).μ p = (shp L).length - p.i := rfl
theorem L3aR (L : List Int) (s : Es) (k : Nat) (p q : K3a L s k) : (L3a L s k).R p q = (True) := rfl
def I3 (L : List Int) (s : Es) (k : Nat) : Nat → LI := fun n => L3a L s k
theorem I3_0 (L : List Int) (s : Es) (k : Nat) : I3 L s k 0 = L3a L s k := rfl
set_option maxHeartbeats 4000000 in
theorem walk3 {Phi : Nat → Option Ctr} (P9 : Phi 9 = some CAw) (P10 : Phi 10 = some CSh) (P11 : Phi 11 = some CFd) (P12 : Phi 12 = some CSt) (P13 : Phi 13 = some CIn) (L : List Int) (a : Int) (s : Es) (hL : Okb L) (ha : 0 ≤ a ∧ a ≤ 65535) : evC Phi (I3 L s (a % (((shp L).length : Int) + 1)).toNat) rc3 ⟨initS [.lst [.int .u8 0] (u8s L), .int .u16 a, s.av], initM false []⟩ (kRet rv3 (.bool true) false []) := by
  simp (config := {maxSteps := 2000000}) only [rc3, Es.av, initM_f, rv3, evC_seq, evC_region, eo_box, evG_no, Option.getD_some, ev_box, av_t, initS_at, List.getD_cons_succ, List.getD_cons_zero, gv_agg, bind1_some', boxR_eq, cells_agg, List.length_cons, List.length_nil, Nat.zero_add, Nat.reduceAdd, ↓reduceIte, bxO_some, Nat.reduceMul, goOp_some, put_n, killB_cells, List.map_cons, kill0_bool, List.map_nil, eo_mov, ev_mov, av_c, gv_bool, un1_mov, put_q, evOps_nil, kEnd_at, hasG_no, hasG_nil, kEndB_f, kSeq_n, eo_call, P9, CAw, evCl_mk, ev_call, avs_nil, clO_some, call_pure, lends_nil, callN_some, callP_some, List.nil_append, c2_bool, flat2_bool, backOK_nil, Bool.and_self, clQ_t, eo_not, ev_not, upd_at, un1_not, Bool.not_true, evC_cond, evC_ret, kSeq_r, kRet_r, retOK_eq, retL_cons, retV_t, retL_nil, consO_some, lkR_one, lk1_bool, lkT_f, applyL_nil, retOK_f, rtO_some, resV_one, leV1_bool, and_true, knowL_nil, askL_nil, evC_skip, Nat.reduceEqDiff, killS_at, kill3_lst, gv_lst, eo_len, ev_len, len_lst, u8s_len, eo_cmp, ev_cmp, gv_int, cmp2_some, cmp_gtr, toR_some', and_self, P10, CSh, avs_cons, lends_cons, lend1_lst, consL_some', decU_u8s, true_and, c2_lst, flat2_lst, kill3_int, eo_conv, ev_conv, un1_conv, eo_arith, ev_arith, bind2_some', arith_add, arith_rem, eo_load, ev_load, gv_ptr, load_ptr, updM_at, ldB_cells, valOf_agg, Nat.reduceLeDiff, decide_true, valB_true, List.drop_zero, List.take_succ_cons, List.take_zero, ldV_some, P11, CFd, lend1_agg, lendC_cons, lendA_bool, lendC_nil, aggL_some, Es.eta, c2_tup, List.all_cons, c1_agg, c0_bool, List.all_nil, c1_lst, flat2_tup, flat1_agg, flat0_bool, flat1_lst, Bool.and_true, Bool.true_and, gv_tup, eo_extract, ev_extract, un1_extract, List.getElem?_cons_zero, List.getElem?_cons_succ, eo_alloc, ev_alloc, eo_store, ar_t, kill3_agg, vwsT_ptr, frzL_nil, goF_eq, Option.getD_none, ev_store, store_ptr, stB_cells, stC_true, setC_cons, List.set_cons_zero, List.set_cons_succ, setC_nil, put_s, liveB_cells, evC_draw, preK_some, needD_load, preB_f, needD_mov, needD_slice, needD_call, needD_extract, needD_alloc, preB_t, preK_none, preK_nil, evD_cons, kill3_ptr, killM_at, killO_some, evDk_some, newOK_none, ev_slice, boundA_none, boundA_some, optS_some, sliceO_some, slice_lst, loOf_none, hiOf_int, beq_self_eq_true, slL_some, Int.reduceLE, Int.reduceToNat, u8s_take, newOK_some, deadL_nil, evD_nil, loOf_int, hiOf_none, Int.toNat_natCast, u8s_drop, gv_nil, evC_block, evC_loop, I3_0, L3aS, S3a, Es.cs, fdS_cut, SL_ge, lkL_cons, lkS_ptr, lkS_lst, lkS_nil_vw, lookM_cons, nlK_buf, lkS_int, lkL_nil, List.cons_append, lkM_cons, lkB_cells, lkC_cons, lkC0_bool, lkC_nil, killO_none, lkB_buf, lkM_nil, applyL_nls, nlV_nil, Nat.reduceLT, nlP_t, SL_ge0, leL_cons, leV1_ptr, leV1_lst, leV1_vw, leV1_int, leL_nil, leM_cons, leB_cells, leAs_cons, leA_bool, leAs_nil, leB_buf, leM_nil, L3aR, SL_st, lookL_cons, cmp_lss, eo_iaddrS, ev_iaddrS, iaddrS_lst, iasB_true, gv_ep, load_ep, getE_u8, valOf_one, P12, CSt, lend1_int, c1_int, flat1_int, gv_vw, eo_append, ev_append, appR_vw, ysOf_lst, appV_buf, appK_some, Nat.mul_one, u8s_join, killB_buf, kBlk_n, kLoop_n, lkS_vw_vw, renK_t, askL_cons, knowL_cons, evC_exit, kSeq_e, kLoop_e, kBlk_e, kBlkB_t, condK_bool, true_imp_iff, knowD_cons, knowD_nil, pairD_cons, pairOK_eq, newMen_none, List.contains_cons, Nat.reduceBEq, List.contains_nil, Bool.or_false, Bool.or_true, pairB_t, pairD_nil, pairB_f, chkR_eq, pslots_lst, optN_some, disjN_nil, newI_none, pslots_junk, optN_none, disjN_cons, Bool.not_false, pslots_agg, pslots_int, newMen_some, noMen_eq, noB_none, pslots_ptr, newI_some, kill3_tup, kill1_agg, kill1_lst, pslots_tup, implies_true, Bool.false_eq_true, false_imp_iff]
  try simp only [iteP, iteF]
  intro _ h
  have h := of_decide_eq_false h
  have hs := shp_len L
  have e1 : IntKind.i64.wrap (((shp L).length : Int) + 1) = ((shp L).length : Int) + 1 := wr_in _ (by omega) (by omega)
  have e2 : IntKind.i64.wrap a = a := wr_in _ (by omega) (by omega)
  have e3 : a.tmod (((shp L).length : Int) + 1) = a % (((shp L).length : Int) + 1) := Int.tmod_eq_emod_of_nonneg ha.1
  have b1 : 0 ≤ a % (((shp L).length : Int) + 1) := Int.emod_nonneg _ (by omega)
  have b2 : a % (((shp L).length : Int) + 1) < ((shp L).length : Int) + 1 := Int.emod_lt_of_pos _ (by omega)
  rw [e1, e2, e3]
  generalize a % (((shp L).length : Int) + 1) = q at b1 b2 ⊢
  obtain ⟨k, rfl⟩ : ∃ n : Nat, q = n := ⟨q.toNat, by omega⟩
  have e4 : List.take ((shp L).length - k) (List.drop k (shp L)) = (shp L).drop k := List.take_of_length_le (by simp)
  simp only [Int.toNat_natCast, Nat.sub_zero, e4, fdS_cut]
  refine ⟨⟨hL, by omega⟩, fun _ => ⟨by omega, by omega, ⟨by omega, by omega⟩, by simp only [List.length_take]; omega, ⟨by omega, by omega, by omega⟩, by simp only [List.length_drop]; omega, fun _ => ⟨⟨0, by omega⟩, ⟨⟨trivial, trivial, trivial, trivial, rfl⟩, ?_⟩, ?_⟩⟩⟩
  · exact ⟨⟨trivial, trivial⟩, ⟨rfl, rfl⟩, rfl⟩
  rintro ⟨i, hi⟩
  dsimp only
  refine ⟨fun hc => ?_, fun hc => ?_⟩
  · have hc := of_decide_eq_true hc
    have h1 := fdO_len s ((shp L).take i)
    have h3 := stO_len (fdS s ((shp L).take i)) ((shp L).getD i 0)
    simp only [List.length_take] at h1
    have e := take_snoc (shp L) 0 i (by omega)
    have eS : fdS s ((shp L).take (i + 1)) = stS (fdS s ((shp L).take i)) ((shp L).getD i 0) := by rw [e, fdS_app, fdS_one]
    have eO : fdO s ((shp L).take (i + 1)) = fdO s ((shp L).take i) ++ stO (fdS s ((shp L).take i)) ((shp L).getD i 0) := by rw [e, fdO_app, fdO_one]
    exact ⟨⟨by omega, by omega⟩, fun _ => ⟨by omega, by omega, ⟨i + 1, by omega⟩, ⟨AV.int_inj' (wr_succ i (by omega)), ⟨by rw [eS], by rw [eS]⟩, by rw [eO]⟩, by dsimp only; omega⟩⟩
  · have hc := of_decide_eq_false hc
    have e5 : List.take i (shp L) = shp L := List.take_of_length_le (by omega)
    simp only [e5]
    simp (config := {maxSteps := 2000000}) only [evC_splitD, preK_some, needD_load, preB_f, needD_eqa, needD_mov, needD_pick, needD_b2s, needD_appD, preB_t, Nat.reduceMul, Nat.reduceAdd, needD_cmp, needD_call, preK_nil, evDS_cons, Nat.zero_add, evDS1_none, pickOf, passDS_none, ev_load, av_t, killS_at, upd_at, Nat.reduceEqDiff, ↓reduceIte, lookL_cons, kill3_ptr, gv_ptr, bind1_some', load_ptr, updM_at, killM_at, lookM_cons, killO_some, killB_cells, List.map_cons, kill0_bool, List.map_nil, ldB_cells, valOf_agg, List.length_cons, List.length_nil, Nat.reduceLeDiff, decide_true, valB_true, List.drop_zero, List.take_succ_cons, List.take_zero, ldV_some, stepDS_some, newOK_none, put_q, evDSk_at, ev_eqa, gv_agg, eqa2_some, eqaR_agg, eqC_bool, beq_self_eq_true, eqC_nil, andO_some, Bool.and_self, eqaB_f, toR_some', ev_mov, gv_bool, un1_mov, evDS1_gd, guardDS_bool, passDS_some, ar_t, pickDS_bool, vRes_some, kill3_lst, gv_lst, ev_b2s, b2s_lst, ByteE_u8s, bytesOf_u8s, ev_appD, av_c, gv_nil, bind2_some', appDR_nil, appR_nil, ysOf_lst, appK_some, u8s_len, Nat.mul_one, List.nil_append, newOK_some, deadL_nil, killB_buf, liveB_buf, and_self, put_n, kill3_bool, gv_vw, appDR_vw, Nat.reduceBEq, appDV_buf, appDK_some, u8s_join, fdO_cut, List.cons_append, deadL_dead, put_nd, b2s_vw, b2sB_buf, ev_cmp, kill3_str, gv_str, cmp2_some, cmp_eqlS, kill3_vw, i64s_len, i64s_join, fdA_cut, ev_call, P13, CIn, avs_cons, avs_nil, consO_some, clO_some, call_pure, lends_cons, lend1_lst, lend1_vw, lendB_buf, lends_nil, consL_some', callN_some, decI_i64s, callP_some, c2_bool, flat2_bool, backOK_cons, clQ_t, evDS_nil, kEnd_at, hasG_no, hasG_yes, kEndB_t, kSeq_n, evC_ret, kRet_r, retOK_eq, retL_cons, retV_t, ungdS_at, ungd_bool, retL_nil, lkR_one, lk1_bool, lkT_f, applyL_nil, retOK_f, rtO_some, resV_one, leV1_bool, knowD_cons, knowD_nil, knowL_nil, pairD_cons, pairOK_eq, newMen_none, List.contains_cons, List.contains_nil, Bool.or_false, Bool.or_true, pairB_t, pairD_nil, askL_nil, askL_cons, newMen_some, noMen_eq, noB_none, noB_some, pairB_f, chkR_eq, pslots_vw, optN_some, disjN_nil, pslots_lst, newI_none, newI_some, disjN_cons, Bool.not_false, killB_dead, kill3_agg, and_true, true_and, pslots_str, pslots_agg]
    have q1 := fdO_len s ((shp L).take k)
    have q2 := fdO_len (fdS s ((shp L).take k)) ((shp L).drop k)
    have q3 := fdA_len s ((shp L).take k)
    have q4 := fdA_len (fdS s ((shp L).take k)) ((shp L).drop k)
    simp only [List.length_take, List.length_drop] at q1 q2 q3 q4
    omega
end Go.Proofs.Ytfmndopgbikgjaa
