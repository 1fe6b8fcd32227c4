/- A part of the proof: symbolic evaluation of the program's functions, proved sound against the model; no condition. -/
import Derived.Test.YtfmndopgbikgjaaEvGB
namespace Go.Proofs.Ytfmndopgbikgjaa
open Go Go.RowKit Go.Ev
set_option linter.unusedSimpArgs false
set_option linter.unusedVariables false
set_option maxRecDepth 20000
structure K11a (s : Es) (l : List Int) where
  i : Nat
  hi : i ≤ l.length
def S11a (s : Es) (l : List Int) (p : K11a s l) : SL := ⟨[(2, .ptr 192 0), (4, .ptr 320 0), (7, .vw 3200 0 0 0), (8, .vw 3264 0 0 0), (14, .lst [.int .u8 0] (u8s l)), (15, .int .i64 l.length), (16, .int .i64 p.i)], [(192, .cells (fdS s (l.take p.i)).cs), (320, .cells [.bool false, .bool false]), (3200, .buf 5 [.int .u8 0] (u8s (fdO s (l.take p.i)))), (3264, .buf 3 [.int .i64 0] (i64s (fdA s (l.take p.i))))]⟩
abbrev L11a (s : Es) (l : List Int) : LI := ⟨K11a s l, S11a s l, fun p => l.length - p.i, fun p q => True⟩
theorem L11aS (s : Es) (l : List Int) : (L11a s l).S = S11a s l := rfl
theorem L11aM (s : Es) (l : List Int) (p : K11a s l) : (L11a s l).μ p = l.length - p.i := rfl
theorem L11aR (s : Es) (l : List Int) (p q : K11a s l) : (L11a s l).R p q = (True) := rfl
def I11 (s : Es) (l : List Int) : Nat → LI := fun n => L11a s l
theorem I11_0 (s : Es) (l : List Int) : I11 s l 0 = L11a s l := rfl
structure K18a (s : Es) (l : List Int) where
  i : Nat
  hi : i ≤ l.length
def S18a (s : Es) (l : List Int) (p : K18a s l) : SL := ⟨[(1, .lst [.int .u8 0] (u8s l)), (2, .ptr 192 0), (4, .ptr 320 0), (7, .vw 3200 0 0 0), (8, .vw 3264 0 0 0), (9, .int .i64 p.i)], [(192, .cells (fdS s (l.take p.i)).cs), (320, .cells [.bool false, .bool false]), (3200, .buf 5 [.int .u8 0] (u8s (fdO s (l.take p.i)))), (3264, .buf 3 [.int .i64 0] (i64s (fdA s (l.take p.i))))]⟩
abbrev L18a (s : Es) (l : List Int) : LI := ⟨K18a s l, S18a s l, fun p => l.length - p.i, fun p q => True⟩
theorem L18aS (s : Es) (l : List Int) : (L18a s l).S = S18a s l := rfl
theorem L18aM (s : Es) (l : List Int) (p : K18a s l) : (L18a s l).μ p = l.length - p.i := rfl
theorem L18aR (s : Es) (l : List Int) (p q : K18a s l) : (L18a s l).R p q = (True) := rfl
def I18 (s : Es) (l : List Int) : Nat → LI := fun n => L18a s l
theorem I18_0 (s : Es) (l : List Int) : I18 s l 0 = L18a s l := rfl
structure K19a (l : List Int) where
  i : Nat
  hi : i ≤ l.length
def S19a (l : List Int) (p : K19a l) : SL := ⟨[(3, .vw 3200 0 0 0), (4, .bool (qb true (l.take p.i))), (7, .lst [.int .u8 0] (u8s l)), (8, .int .i64 l.length), (9, .int .i64 p.i)], [(3200, .buf 5 [.int .u8 0] (u8s (qt true (l.take p.i))))]⟩
abbrev L19a (l : List Int) : LI := ⟨K19a l, S19a l, fun p => l.length - p.i, fun p q => True⟩
theorem L19aS (l : List Int) : (L19a l).S = S19a l := rfl
theorem L19aM (l : List Int) (p : K19a l) : (L19a l).μ p = l.length - p.i := rfl
theorem L19aR (l : List Int) (p q : K19a l) : (L19a l).R p q = (True) := rfl
def I19 (l : List Int) : Nat → LI := fun n => L19a l
theorem I19_0 (l : List Int) : I19 l 0 = L19a l := rfl
structure K20a (l : List Int) where
  i : Nat
  hi : i ≤ l.length
def S20a (l : List Int) (p : K20a l) : SL := ⟨[(0, .lst [.int .u8 0] (u8s l)), (3, .vw 3200 0 0 0), (4, .int .i64 p.i)], [(3200, .buf 5 [.int .u8 0] (u8s (qt true (l.take p.i))))]⟩
abbrev L20a (l : List Int) : LI := ⟨K20a l, S20a l, fun p => l.length - p.i, fun p q => True⟩
theorem L20aS (l : List Int) : (L20a l).S = S20a l := rfl
theorem L20aM (l : List Int) (p : K20a l) : (L20a l).μ p = l.length - p.i := rfl
theorem L20aR (l : List Int) (p q : K20a l) : (L20a l).R p q = (True) := rfl
def I20 (l : List Int) : Nat → LI := fun n => L20a l
theorem I20_0 (l : List Int) : I20 l 0 = L20a l := rfl
structure K10a (l : List Int) where
  i : Nat
  hi : i ≤ l.length
def S10a (l : List Int) (p : K10a l) : SL := ⟨[(3, .vw 3200 0 0 0), (6, .lst [.int .u8 0] (u8s l)), (7, .int .i64 l.length), (8, .int .i64 p.i)], [(3200, .buf 5 [.int .u8 0] (u8s (shp (l.take p.i))))]⟩
abbrev L10a (l : List Int) : LI := ⟨K10a l, S10a l, fun p => l.length - p.i, fun p q => True⟩
theorem L10aS (l : List Int) : (L10a l).S = S10a l := rfl
theorem L10aM (l : List Int) (p : K10a l) : (L10a l).μ p = l.length - p.i := rfl
theorem L10aR (l : List Int) (p q : K10a l) : (L10a l).R p q = (True) := rfl
def I10 (l : List Int) : Nat → LI := fun n => L10a l
theorem I10_0 (l : List Int) : I10 l 0 = L10a l := rfl
structure K13a (a b : List Int) where
  i : Nat
  hi : i ≤ a.length
  he : ∀ j, j < i → a.getD j 0 = b.getD j 0
def S13a (a b : List Int) (p : K13a a b) : SL := ⟨[(0, .lst [.int .i64 0] (i64s a)), (1, .lst [.int .i64 0] (i64s b)), (5, .int .i64 p.i)], []⟩
abbrev L13a (a b : List Int) : LI := ⟨K13a a b, S13a a b, fun p => a.length - p.i, fun p q => True⟩
theorem L13aS (a b : List Int) : (L13a a b).S = S13a a b := rfl
theorem L13aM (a b : List Int) (p : K13a a b) : (L13a a b).μ p = a.length - p.i := rfl
theorem L13aR (a b : List Int) (p q : K13a a b) : (L13a a b).R p q = (True) := rfl
def I13 (a b : List Int) : Nat → LI := fun n => L13a a b
theorem I13_0 (a b : List Int) : I13 a b 0 = L13a a b := rfl
set_option maxHeartbeats 4000000 in
theorem walk11 {Phi : Nat → Option Ctr} (P12 : Phi 12 = some CSt) (s : Es) (l : List Int) (hl : l.length ≤ 100000) : evC Phi (I11 s l) rc11 ⟨initS [s.av, .lst [.int .u8 0] (u8s l)], initM false []⟩ (kRet rv11 (.tup [(fdS s l).av, .lst [.int .u8 0] (u8s (fdO s l)), .lst [.int .i64 0] (i64s (fdA s l))]) false []) := by
  simp (config := {maxSteps := 2000000}) only [rc11, Es.av, initM_f, rv11, evC_seq, evC_region, eo_box, evG_no, Option.getD_some, ev_box, av_t, initS_at, List.getD_cons_zero, gv_agg, bind1_some', boxR_eq, cells_agg, List.length_cons, List.length_nil, Nat.zero_add, Nat.reduceAdd, ↓reduceIte, bxO_some, Nat.reduceMul, goOp_some, put_n, killB_cells, List.map_cons, kill0_bool, List.map_nil, eo_alloc, ev_alloc, eo_mov, ev_mov, av_c, gv_nil, un1_mov, put_q, evOps_nil, kEnd_at, hasG_no, hasG_nil, kEndB_f, kSeq_n, upd_at, Nat.reduceEqDiff, killS_at, List.getD_cons_succ, kill3_lst, gv_lst, eo_len, ev_len, len_lst, u8s_len, gv_int, evC_block, evC_loop, I11_0, L11aS, S11a, Es.cs, SL_ge, lkL_cons, kill3_ptr, lkS_ptr, lkS_nil_vw, lookM_cons, nlK_buf, lkS_lst, lkS_int, lkL_nil, List.nil_append, List.cons_append, lkM_cons, updM_at, killM_at, killO_some, lkB_cells, lkC_cons, lkC0_bool, lkC_nil, killO_none, lkB_buf, lkM_nil, applyL_nls, nlV_nil, Nat.reduceLeDiff, decide_true, Nat.reduceLT, Bool.and_self, nlP_t, kill3_nil, applyL_nil, SL_ge0, leL_cons, leV1_ptr, kill3_vw, leV1_vw, leV1_lst, kill3_int, leV1_int, leL_nil, and_true, true_and, leM_cons, leB_cells, leAs_cons, leA_bool, leAs_nil, and_self, killB_buf, leB_buf, leM_nil, L11aR, SL_st, eo_cmp, ev_cmp, lookL_cons, cmp2_some, cmp_lss, toR_some', evC_cond, evC_skip, eo_iaddrS, ev_iaddrS, bind2_some', iaddrS_lst, beq_self_eq_true, iasB_true, Int.toNat_natCast, eo_load, ev_load, gv_ep, load_ep, getE_u8, valOf_one, List.getElem?_cons_zero, ldV_some, gv_ptr, load_ptr, ldB_cells, valOf_agg, valB_true, List.drop_zero, List.take_succ_cons, List.take_zero, eo_call, P12, CSt, evCl_mk, ev_call, avs_cons, avs_nil, consO_some, clE_some, callE_pure, lends_cons, lend1_agg, lendC_cons, lendA_bool, lendC_nil, consL_some', aggL_some, lend1_int, lends_nil, callN_some, Es.eta, callP_some, c2_tup, List.all_cons, c1_agg, c0_bool, List.all_nil, c1_lst, c1_int, flat2_tup, flat1_agg, flat0_bool, flat1_lst, flat1_int, Bool.and_true, Bool.true_and, backOK_nil, clQ_t, gv_tup, eo_extract, ev_extract, un1_extract, List.getElem?_cons_succ, eo_store, ar_t, kill3_agg, vwsT_ptr, frzL_nil, goF_eq, Option.getD_none, ev_store, store_ptr, stB_cells, stC_true, setC_cons, List.set_cons_zero, List.set_cons_succ, setC_nil, put_s, liveB_cells, evC_draw, preK_some, needD_load, preB_f, needD_mov, needD_appD, preB_t, preK_none, preK_nil, evD_cons, evDk_some, newOK_none, gv_vw, ev_appD, appDR_vw, ysOf_lst, Nat.reduceBEq, appDV_buf, appDK_some, Nat.mul_one, u8s_join, newOK_some, deadL_dead, deadL_nil, liveB_buf, put_nd, evD_nil, cmp_neq, eo_bsliceO, vwsG_cons, vws1_int, vwsG_nil, ev_bsliceO, List.replicate_succ, List.replicate_zero, fillS_cons, fsK_some, cells_int, fsC_some, c0_int, fillS_nil, blO2_some, eo_append, ev_append, appR_vw, ysOf_vw, ysV_buf, appV_buf, appK_some, i64s_len, i64s_snoc, kBlk_n, eo_arith, ev_arith, arith_add, kLoop_n, lkS_vw_vw, renK_f, renK_t, applyL_ren, renQ_buf, Bool.not_false, renP_t, renSl_at, ren3_ptr, ren3_vw, ren3_lst, ren3_int, renM_at, renO_cells, ren0_bool, renO_buf, knowL_nil, askL_nil, askL_cons, condK_bool, knowD_cons, knowD_nil, pairD_cons, pairOK_eq, newMen_none, List.contains_cons, List.contains_nil, Bool.or_false, Bool.or_true, pairB_t, pairD_nil, newMen_some, noMen_eq, noB_none, pairB_f, chkR_eq, pslots_vw, optN_some, disjN_nil, pslots_agg, newI_none, newI_some, disjN_cons, pslots_lst, knowL_cons, evC_exit, kSeq_e, kLoop_e, kBlk_e, kBlkB_t, evC_ret, kRet_r, retOK_eq, retL_cons, retV_c, rvP_ptr, rvB_cells, retV_t, retL_nil, lkR_two, lkVs_cons, lk1_agg, lkAs_cons, lk0_bool, lkAs_nil, lk1_vw_lst, lkVs_nil, lkT_f, applyL_frz, frzQ_buf, frzP_t, frzM_at, frzO_some, frzB_buf, retOK_f, frzSl_at, frz3_ptr, frzB_cells, frz0_bool, frz3_vw, frz3_lst, rtO_some, resV_two, leVs_cons, leV1_agg, leVs_nil, true_imp_iff]
  intro _
  refine ⟨⟨0, by omega⟩, ⟨rfl, ⟨rfl, rfl⟩, rfl, rfl⟩, ?_⟩
  rintro ⟨i, hi⟩
  dsimp only
  refine ⟨fun hc => ?_, fun hc => ?_⟩
  · have hc := of_decide_eq_true hc
    have h1 := fdO_len s (l.take i)
    have h2 := fdA_len s (l.take i)
    have h3 := stO_len (fdS s (l.take i)) (l.getD i 0)
    simp only [List.length_take] at h1 h2
    have e := take_snoc l 0 i (by omega)
    have eS : fdS s (l.take (i + 1)) = stS (fdS s (l.take i)) (l.getD i 0) := by rw [e, fdS_app, fdS_one]
    have eO : fdO s (l.take (i + 1)) = fdO s (l.take i) ++ stO (fdS s (l.take i)) (l.getD i 0) := by rw [e, fdO_app, fdO_one]
    have eA : fdA s (l.take (i + 1)) = fdA s (l.take i) ++ aL (stA (fdS s (l.take i)) (l.getD i 0)) := by rw [e, fdA_app, fdA_one]
    refine ⟨⟨by omega, by omega⟩, fun _ => ⟨by omega, by omega, fun ha => ⟨by omega, by omega, ⟨i + 1, by omega⟩, ⟨AV.int_inj' (wr_succ i (by omega)), ⟨by rw [eS], by rw [eS]⟩, by rw [eO], ?_⟩, ?_⟩, fun ha => ⟨⟨i + 1, by omega⟩, ⟨AV.int_inj' (wr_succ i (by omega)), ⟨by rw [eS], by rw [eS]⟩, by rw [eO], ?_⟩, ?_⟩⟩⟩
    · have ha : ¬ stA (fdS s (l.take i)) (l.getD i 0) = 0 := by simpa using ha
      rw [eA, aL, if_neg ha]
    · show l.length - (i + 1) < l.length - i
      omega
    · have ha : stA (fdS s (l.take i)) (l.getD i 0) = 0 := by simpa using ha
      rw [eA, aL, if_pos ha, List.append_nil]
    · show l.length - (i + 1) < l.length - i
      omega
  · have hc := of_decide_eq_false hc
    rw [List.take_of_length_le (by omega)]
    exact ⟨⟨rfl, rfl⟩, rfl, rfl⟩
set_option maxHeartbeats 4000000 in
theorem walk18 {Phi : Nat → Option Ctr} (P17 : Phi 17 = some CSt) (s : Es) (l : List Int) (hl : l.length ≤ 100000) : evC Phi (I18 s l) rc18 ⟨initS [s.av, .lst [.int .u8 0] (u8s l)], initM false []⟩ (kRet rv18 (.tup [(fdS s l).av, .lst [.int .u8 0] (u8s (fdO s l)), .lst [.int .i64 0] (i64s (fdA s l))]) false []) := by
  simp (config := {maxSteps := 2000000}) only [rc18, Es.av, initM_f, rv18, evC_seq, evC_region, eo_box, evG_no, Option.getD_some, ev_box, av_t, initS_at, List.getD_cons_zero, gv_agg, bind1_some', boxR_eq, cells_agg, List.length_cons, List.length_nil, Nat.zero_add, Nat.reduceAdd, ↓reduceIte, bxO_some, Nat.reduceMul, goOp_some, put_n, killB_cells, List.map_cons, kill0_bool, List.map_nil, eo_alloc, ev_alloc, eo_mov, ev_mov, av_c, gv_nil, un1_mov, put_q, evOps_nil, kEnd_at, hasG_no, hasG_nil, kEndB_f, kSeq_n, gv_int, evC_block, evC_loop, I18_0, L18aS, S18a, Es.cs, SL_ge, lkL_cons, upd_at, Nat.reduceEqDiff, killS_at, List.getD_cons_succ, kill3_lst, lkS_lst, kill3_ptr, lkS_ptr, lkS_nil_vw, lookM_cons, nlK_buf, lkS_int, lkL_nil, List.nil_append, List.cons_append, lkM_cons, updM_at, killM_at, killO_some, lkB_cells, lkC_cons, lkC0_bool, lkC_nil, killO_none, lkB_buf, lkM_nil, applyL_nls, nlV_nil, Nat.reduceLeDiff, decide_true, Nat.reduceLT, Bool.and_self, nlP_t, kill3_nil, applyL_nil, SL_ge0, leL_cons, leV1_lst, leV1_ptr, kill3_vw, leV1_vw, kill3_int, leV1_int, leL_nil, and_true, true_and, leM_cons, leB_cells, leAs_cons, leA_bool, leAs_nil, and_self, killB_buf, leB_buf, leM_nil, L18aR, SL_st, lookL_cons, gv_lst, eo_len, ev_len, len_lst, u8s_len, eo_cmp, ev_cmp, cmp2_some, cmp_lss, toR_some', evC_cond, evC_skip, evC_draw, preK_some, needD_load, preB_f, needD_mov, needD_iaddrS, needD_call, preB_t, needD_extract, needD_alloc, preK_none, preK_nil, evD_cons, ev_load, gv_ptr, load_ptr, ldB_cells, valOf_agg, valB_true, List.drop_zero, List.take_succ_cons, List.take_zero, ldV_some, evDk_some, newOK_none, ev_iaddrS, bind2_some', iaddrS_lst, beq_self_eq_true, iasB_true, Int.toNat_natCast, gv_ep, load_ep, getE_u8, valOf_one, List.getElem?_cons_zero, ev_call, P17, CSt, avs_cons, avs_nil, consO_some, clE_some, callE_pure, lends_cons, lend1_agg, lendC_cons, lendA_bool, lendC_nil, consL_some', aggL_some, lend1_int, lends_nil, callN_some, Es.eta, callP_some, c2_tup, List.all_cons, c1_agg, c0_bool, List.all_nil, c1_lst, c1_int, flat2_tup, flat1_agg, flat0_bool, flat1_lst, flat1_int, Bool.and_true, Bool.true_and, backOK_nil, clQ_t, gv_tup, ev_extract, un1_extract, List.getElem?_cons_succ, newOK_some, deadL_nil, liveB_cells, Option.getD_none, ev_store, kill3_agg, store_ptr, stB_cells, stC_true, setC_cons, List.set_cons_zero, List.set_cons_succ, setC_nil, put_s, evD_nil, needD_appD, gv_vw, ev_appD, appDR_vw, ysOf_lst, Nat.reduceBEq, appDV_buf, appDK_some, Nat.mul_one, u8s_join, deadL_dead, liveB_buf, put_nd, cmp_neq, eo_bsliceO, vwsG_cons, ar_t, vws1_int, vwsG_nil, frzL_nil, goF_eq, ev_bsliceO, List.replicate_succ, List.replicate_zero, fillS_cons, fsK_some, cells_int, fsC_some, c0_int, fillS_nil, blO2_some, eo_append, ev_append, appR_vw, ysOf_vw, ysV_buf, appV_buf, appK_some, i64s_len, i64s_snoc, kBlk_n, eo_arith, ev_arith, arith_add, kLoop_n, lkS_vw_vw, renK_f, renK_t, applyL_ren, renQ_buf, Bool.not_false, renP_t, renSl_at, ren3_lst, ren3_ptr, ren3_vw, ren3_int, renM_at, renO_cells, ren0_bool, renO_buf, knowL_nil, askL_nil, askL_cons, condK_bool, knowD_cons, knowD_nil, pairD_cons, pairOK_eq, newMen_none, List.contains_cons, List.contains_nil, Bool.or_false, Bool.or_true, pairB_t, pairD_nil, newMen_some, noMen_eq, noB_none, pairB_f, chkR_eq, pslots_vw, optN_some, disjN_nil, pslots_agg, newI_none, newI_some, disjN_cons, pslots_lst, knowL_cons, pslots_int, pslots_junk, optN_none, pslots_ptr, kill3_tup, kill1_agg, kill1_lst, kill1_int, pslots_tup, kill3_ep, pslots_ep, evC_exit, kSeq_e, kLoop_e, kBlk_e, kBlkB_t, eo_load, eo_store, vwsT_ptr, evC_ret, kRet_r, retOK_eq, retL_cons, retV_c, rvP_ptr, rvB_cells, retV_t, retL_nil, lkR_two, lkVs_cons, lk1_agg, lkAs_cons, lk0_bool, lkAs_nil, lk1_vw_lst, lkVs_nil, lkT_f, applyL_frz, frzQ_buf, frzP_t, frzM_at, frzO_some, frzB_buf, retOK_f, frzSl_at, frz3_ptr, frzB_cells, frz0_bool, frz3_vw, frz3_lst, rtO_some, resV_two, leVs_cons, leV1_agg, leVs_nil, true_imp_iff]
  refine ⟨⟨0, by omega⟩, ⟨rfl, ⟨rfl, rfl⟩, rfl, rfl⟩, ?_⟩
  rintro ⟨i, hi⟩ _
  dsimp only
  refine ⟨fun hc => ?_, fun hc => ?_⟩
  · have hc := of_decide_eq_true hc
    have h1 := fdO_len s (l.take i)
    have h2 := fdA_len s (l.take i)
    have h3 := stO_len (fdS s (l.take i)) (l.getD i 0)
    simp only [List.length_take] at h1 h2
    have e := take_snoc l 0 i (by omega)
    have eS : fdS s (l.take (i + 1)) = stS (fdS s (l.take i)) (l.getD i 0) := by rw [e, fdS_app, fdS_one]
    have eO : fdO s (l.take (i + 1)) = fdO s (l.take i) ++ stO (fdS s (l.take i)) (l.getD i 0) := by rw [e, fdO_app, fdO_one]
    have eA : fdA s (l.take (i + 1)) = fdA s (l.take i) ++ aL (stA (fdS s (l.take i)) (l.getD i 0)) := by rw [e, fdA_app, fdA_one]
    refine ⟨⟨by omega, by omega⟩, fun _ => ⟨by omega, by omega, fun ha => ⟨by omega, by omega, ⟨i + 1, by omega⟩, ⟨AV.int_inj' (wr_succ i (by omega)), ⟨by rw [eS], by rw [eS]⟩, by rw [eO], ?_⟩, ?_⟩, fun ha => ⟨⟨i + 1, by omega⟩, ⟨AV.int_inj' (wr_succ i (by omega)), ⟨by rw [eS], by rw [eS]⟩, by rw [eO], ?_⟩, ?_⟩⟩⟩
    · have ha : ¬ stA (fdS s (l.take i)) (l.getD i 0) = 0 := by simpa using ha
      rw [eA, aL, if_neg ha]
    · show l.length - (i + 1) < l.length - i
      omega
    · have ha : stA (fdS s (l.take i)) (l.getD i 0) = 0 := by simpa using ha
      rw [eA, aL, if_pos ha, List.append_nil]
    · show l.length - (i + 1) < l.length - i
      omega
  · have hc := of_decide_eq_false hc
    rw [List.take_of_length_le (by omega)]
    exact ⟨⟨rfl, rfl⟩, rfl, rfl⟩
set_option maxHeartbeats 4000000 in
theorem walk19 {Phi : Nat → Option Ctr} (P22 : Phi 22 = some CEn) (l : List Int) (hl : l.length ≤ 100000) : evC Phi (I19 l) rc19 ⟨initS [.lst [.int .u8 0] (u8s l)], initM false []⟩ (kRet rv19 (.lst [.int .u8 0] (u8s (qt true l))) false []) := by
  simp (config := {maxSteps := 2000000}) only [rc19, initM_f, rv19, evC_seq, evC_region, eo_mov, evG_no, Option.getD_some, ev_mov, av_c, gv_nil, bind1_some', un1_mov, goOp_some, put_q, evOps_nil, kEnd_at, hasG_no, hasG_nil, kEndB_f, kSeq_n, gv_bool, av_t, upd_at, Nat.reduceEqDiff, ↓reduceIte, initS_at, List.getD_cons_zero, gv_lst, eo_len, ev_len, len_lst, u8s_len, gv_int, evC_block, evC_loop, I19_0, L19aS, S19a, SL_ge, lkL_cons, lkS_nil_vw, lookM_cons, nlK_buf, lkS_bool, lkS_lst, lkS_int, lkL_nil, List.nil_append, List.cons_append, lkM_cons, lkB_buf, lkM_nil, applyL_nls, nlV_nil, Nat.reduceLeDiff, decide_true, List.length_cons, List.length_nil, Nat.zero_add, Nat.reduceLT, Bool.and_self, nlP_t, applyL_nil, SL_ge0, leL_cons, leV1_vw, killS_at, kill3_bool, leV1_bool, kill3_lst, leV1_lst, kill3_int, leV1_int, leL_nil, and_true, true_and, leM_cons, updM_at, leB_buf, leM_nil, L19aR, SL_st, eo_cmp, ev_cmp, lookL_cons, cmp2_some, cmp_lss, toR_some', evC_cond, evC_skip, eo_iaddrS, ev_iaddrS, bind2_some', iaddrS_lst, beq_self_eq_true, iasB_true, Int.toNat_natCast, eo_load, ev_load, gv_ep, load_ep, getE_u8, valOf_one, List.getElem?_cons_zero, ldV_some, evG_yes, pathG_bool, gG_some, guardR_q, guardL_nil, gv_gd, List.contains_cons, List.contains_nil, Bool.or_false, List.all_cons, List.all_nil, gvB_true, cmp_eql, eo_pick, ev_pick, pick3_some, pickV_bool, Bool.cond_false_right, hasG_yes, kEndB_t, ungdS_at, ungd_vw, gv_vw, eo_bsliceO, vwsG_cons, ar_c, vws1_int, vwsG_nil, frzL_nil, goF_eq, ev_bsliceO, List.replicate_succ, List.replicate_zero, fillS_cons, fsK_some, cells_int, fsC_some, c0_int, and_self, List.set_cons_zero, fillS_nil, blO2_some, Nat.reduceMul, Nat.reduceAdd, put_n, killB_buf, eo_append, ev_append, kill3_vw, appR_vw, ysOf_vw, ysV_buf, killM_at, killO_some, appV_buf, appK_some, Nat.mul_one, u8s_snoc, ungd_int, ar_t, eo_call, P22, CEn, evCl_mk, ev_call, avs_cons, avs_nil, consO_some, clE_some, callE_pure, lends_cons, lend1_int, lends_nil, consL_some', callN_some, callP_some, c2_bool, flat2_bool, backOK_nil, clQ_t, kBlk_n, eo_arith, ev_arith, arith_add, kLoop_n, lkS_vw_vw, renK_t, ungd_lst, knowL_nil, askL_nil, askL_cons, ungd_bool, condK_bool, knowL_cons, evC_exit, kSeq_e, kLoop_e, kBlk_e, kBlkB_t, evC_ret, kRet_r, retOK_eq, retL_cons, retV_t, retL_nil, lkR_one, lk1_vw_lst, lkT_f, applyL_frz, frzQ_buf, frzP_t, retOK_f, frzSl_at, frz3_vw, rtO_some, resV_one, true_imp_iff]
  intro _
  refine ⟨⟨0, by omega⟩, ⟨⟨rfl, rfl⟩, rfl⟩, ?_⟩
  rintro ⟨i, hi⟩
  dsimp only
  refine ⟨fun hc => ?_, fun hc => ?_⟩
  · have hc := of_decide_eq_true hc
    have h1 := qt_len true (l.take i)
    simp only [List.length_take] at h1
    have e := take_snoc l 0 i (by omega)
    have eB : qb true (l.take (i + 1)) = ends (l.getD i 0) := by rw [e, qb_app, qb_one]
    have eT : qt true (l.take (i + 1)) = qt true (l.take i) ++ q1 (qb true (l.take i)) (l.getD i 0) := by rw [e, qt_app, qt_one]
    refine ⟨⟨by omega, by omega⟩, fun _ => ⟨fun ha => ⟨by omega, by omega, by simp only [List.length_append, List.length_cons, List.length_nil]; omega, by simp only [List.length_append, List.length_cons, List.length_nil]; omega, ⟨i + 1, by omega⟩, ⟨⟨by rw [eB], AV.int_inj' (wr_succ i (by omega))⟩, ?_⟩, ?_⟩, fun ha => ⟨by omega, by omega, ⟨i + 1, by omega⟩, ⟨⟨by rw [eB], AV.int_inj' (wr_succ i (by omega))⟩, ?_⟩, ?_⟩⟩⟩
    · have ha : qb true (l.take i) = true ∧ l.getD i 0 = 126 := by simpa using ha
      rw [eT, q1, if_pos ha]
      simp
    · show l.length - (i + 1) < l.length - i
      omega
    · have ha : ¬ (qb true (l.take i) = true ∧ l.getD i 0 = 126) := by simpa using ha
      rw [eT, q1, if_neg ha]
    · show l.length - (i + 1) < l.length - i
      omega
  · have hc := of_decide_eq_false hc
    rw [List.take_of_length_le (by omega)]
set_option maxHeartbeats 4000000 in
theorem walk20 {Phi : Nat → Option Ctr} (P25 : Phi 25 = some CEn) (l : List Int) (hl : l.length ≤ 100000) : evC Phi (I20 l) rc20 ⟨initS [.lst [.int .u8 0] (u8s l)], initM false []⟩ (kRet rv20 (.lst [.int .u8 0] (u8s (qt true l))) false []) := by
  simp (config := {maxSteps := 2000000}) only [rc20, initM_f, rv20, evC_seq, evC_region, eo_mov, evG_no, Option.getD_some, ev_mov, av_c, gv_nil, bind1_some', un1_mov, goOp_some, put_q, evOps_nil, kEnd_at, hasG_no, hasG_nil, kEndB_f, kSeq_n, gv_int, evC_block, evC_loop, I20_0, L20aS, S20a, SL_ge, lkL_cons, upd_at, Nat.reduceEqDiff, ↓reduceIte, initS_at, List.getD_cons_zero, lkS_lst, lkS_nil_vw, lookM_cons, nlK_buf, lkS_int, lkL_nil, List.nil_append, List.cons_append, lkM_cons, lkB_buf, lkM_nil, applyL_nls, nlV_nil, Nat.reduceLeDiff, decide_true, List.length_cons, List.length_nil, Nat.zero_add, Nat.reduceLT, Bool.and_self, nlP_t, applyL_nil, SL_ge0, leL_cons, killS_at, kill3_lst, leV1_lst, leV1_vw, kill3_int, leV1_int, leL_nil, and_true, true_and, leM_cons, updM_at, leB_buf, leM_nil, L20aR, SL_st, av_t, lookL_cons, gv_lst, eo_len, ev_len, len_lst, u8s_len, eo_cmp, ev_cmp, cmp2_some, cmp_lss, toR_some', evC_cond, evC_skip, eo_iaddrS, ev_iaddrS, bind2_some', iaddrS_lst, beq_self_eq_true, iasB_true, Int.toNat_natCast, eo_load, ev_load, gv_ep, load_ep, getE_u8, valOf_one, List.getElem?_cons_zero, ldV_some, cmp_eql, gv_bool, evG_yes, pathG_bool, gG_some, guardR_q, guardL_nil, gv_gd, List.contains_cons, List.contains_nil, Bool.or_false, List.all_cons, List.all_nil, gvB_true, pathG_gd, eo_arith, ev_arith, Bool.true_or, Bool.or_true, arith_sub, guardL_cons, pathP_cons, boolOf_bool, boolOf_gd, pathP_nil, eo_call_g, ev_call, P25, CEn, avs_cons, avs_nil, consO_some, clE_some, callE_pure, lends_cons, lend1_int, lends_nil, consL_some', callN_some, callP_some, c2_bool, flat2_bool, backOK_nil, clQ_t, implies_true, eo_pick, ev_pick, pick3_some, pickV_bool, Bool.cond_true_left, Bool.cond_false_right, hasG_yes, kEndB_t, ungdS_at, ungd_vw, gv_vw, eo_bsliceO, vwsG_cons, ar_c, vws1_int, vwsG_nil, frzL_nil, goF_eq, ev_bsliceO, List.replicate_succ, List.replicate_zero, fillS_cons, fsK_some, cells_int, fsC_some, c0_int, and_self, List.set_cons_zero, fillS_nil, blO2_some, Nat.reduceMul, Nat.reduceAdd, put_n, killB_buf, eo_append, ev_append, kill3_vw, appR_vw, ysOf_vw, ysV_buf, killM_at, killO_some, appV_buf, appK_some, Nat.mul_one, u8s_snoc, ungd_lst, ungd_int, ar_t, kBlk_n, arith_add, kLoop_n, lkS_vw_vw, renK_t, knowL_nil, askL_nil, askL_cons, knowL_cons, ungd_bool, condK_bool, evC_exit, kSeq_e, kLoop_e, kBlk_e, kBlkB_t, evC_ret, kRet_r, retOK_eq, retL_cons, retV_t, retL_nil, lkR_one, lk1_vw_lst, lkT_f, applyL_frz, frzQ_buf, frzP_t, retOK_f, frzSl_at, frz3_vw, rtO_some, resV_one, true_imp_iff]
  refine ⟨⟨0, by omega⟩, ⟨rfl, rfl⟩, ?_⟩
  rintro ⟨i, hi⟩ _
  dsimp only
  refine ⟨fun hc => ?_, fun hc => ?_⟩
  · have hc := of_decide_eq_true hc
    have h1 := qt_len true (l.take i)
    simp only [List.length_take] at h1
    have e := take_snoc l 0 i (by omega)
    have eT : qt true (l.take (i + 1)) = qt true (l.take i) ++ q1 (qb true (l.take i)) (l.getD i 0) := by rw [e, qt_app, qt_one]
    have eB : qb true (l.take i) = (decide ((i : Int) = 0) || ends (l.getD (IntKind.i64.wrap ((i : Int) - 1)).toNat 0)) := by
      cases i with
      | zero => rfl
      | succ k =>
        rw [wr_in _ (by omega) (by omega), show (((k + 1 : Nat) : Int) - 1).toNat = k by omega, take_snoc l 0 k (by omega), qb_app, qb_one]
        have : decide (((k + 1 : Nat) : Int) = 0) = false := decide_eq_false (by omega)
        rw [this]; rfl
    refine ⟨⟨by omega, by omega⟩, fun _ => ⟨fun hg => ?_, fun ha => ⟨by omega, by omega, ⟨by omega, by omega⟩, fun _ => ⟨by simp only [List.length_append, List.length_cons, List.length_nil]; omega, by simp only [List.length_append, List.length_cons, List.length_nil]; omega, ⟨i + 1, by omega⟩, ⟨AV.int_inj' (wr_succ i (by omega)), ?_⟩, ?_⟩⟩, fun ha => ⟨⟨by omega, by omega⟩, fun _ => ⟨by omega, by omega, ⟨i + 1, by omega⟩, ⟨AV.int_inj' (wr_succ i (by omega)), ?_⟩, ?_⟩⟩⟩⟩
    · have hg := of_decide_eq_false (Option.some.inj hg.2)
      rw [wr_in _ (by omega) (by omega)]; omega
    · rw [← eB] at ha
      have ha : qb true (l.take i) = true ∧ l.getD i 0 = 126 := by
        simp only [Bool.and_eq_true, decide_eq_true_eq] at ha; exact ⟨ha.2, ha.1⟩
      rw [eT, q1, if_pos ha]
      simp
    · show l.length - (i + 1) < l.length - i
      omega
    · rw [← eB] at ha
      have ha : ¬ (qb true (l.take i) = true ∧ l.getD i 0 = 126) := by
        rintro ⟨h1, h2⟩; rw [h1, decide_eq_true h2] at ha; cases ha
      rw [eT, q1, if_neg ha]
    · show l.length - (i + 1) < l.length - i
      omega
  · have hc := of_decide_eq_false hc
    rw [List.take_of_length_le (by omega)]
set_option maxHeartbeats 4000000 in
theorem walk10 {Phi : Nat → Option Ctr} (l : List Int) (hl : l.length ≤ 100000) (hb : Okb l) : evC Phi (I10 l) rc10 ⟨initS [.lst [.int .u8 0] (u8s l)], initM false []⟩ (kRet rv10 (.lst [.int .u8 0] (u8s (shp l))) false []) := by
  simp (config := {maxSteps := 2000000}) only [rc10, initM_f, rv10, evC_seq, evC_region, eo_mov, evG_no, Option.getD_some, ev_mov, av_c, gv_nil, bind1_some', un1_mov, goOp_some, put_q, evOps_nil, kEnd_at, hasG_no, hasG_nil, kEndB_f, kSeq_n, av_t, upd_at, Nat.reduceEqDiff, ↓reduceIte, initS_at, List.getD_cons_zero, gv_lst, eo_len, ev_len, len_lst, u8s_len, gv_int, evC_block, evC_loop, I10_0, L10aS, S10a, SL_ge, lkL_cons, lkS_nil_vw, lookM_cons, nlK_buf, lkS_lst, lkS_int, lkL_nil, List.nil_append, List.cons_append, lkM_cons, lkB_buf, lkM_nil, applyL_nls, nlV_nil, Nat.reduceLeDiff, decide_true, List.length_cons, List.length_nil, Nat.zero_add, Nat.reduceLT, Bool.and_self, nlP_t, applyL_nil, SL_ge0, leL_cons, leV1_vw, killS_at, kill3_lst, leV1_lst, kill3_int, leV1_int, leL_nil, and_true, true_and, leM_cons, updM_at, leB_buf, leM_nil, L10aR, SL_st, eo_cmp, ev_cmp, lookL_cons, cmp2_some, cmp_lss, toR_some', evC_cond, evC_skip, eo_iaddrS, ev_iaddrS, bind2_some', iaddrS_lst, beq_self_eq_true, iasB_true, Int.toNat_natCast, eo_load, ev_load, gv_ep, load_ep, getE_u8, valOf_one, List.getElem?_cons_zero, ldV_some, gv_vw, eo_conv, ev_conv, un1_conv, eo_arith, ev_arith, arith_rem, eo_idxS, ev_idxS, gv_str, idxS_str, Nat.reduceAdd, eo_bsliceO, vwsG_cons, ar_t, vws1_int, vwsG_nil, frzL_nil, goF_eq, ev_bsliceO, List.replicate_succ, List.replicate_zero, fillS_cons, fsK_some, cells_int, fsC_some, List.all_cons, c0_int, List.all_nil, and_self, List.set_cons_zero, fillS_nil, blO2_some, Nat.reduceMul, put_n, killB_buf, eo_append, ev_append, kill3_vw, appR_vw, ysOf_vw, ysV_buf, killM_at, killO_some, appV_buf, appK_some, Nat.mul_one, u8s_snoc, kBlk_n, arith_add, kLoop_n, lkS_vw_vw, renK_t, knowL_nil, askL_nil, askL_cons, knowL_cons, evC_exit, kSeq_e, kLoop_e, kBlk_e, kBlkB_t, evC_ret, kRet_r, retOK_eq, retL_cons, retV_t, retL_nil, consO_some, lkR_one, lk1_vw_lst, lkT_f, applyL_frz, frzQ_buf, frzP_t, retOK_f, frzSl_at, frz3_vw, rtO_some, resV_one, condK_bool, true_imp_iff]
  intro _
  refine ⟨⟨0, by omega⟩, ⟨rfl, rfl⟩, ?_⟩
  rintro ⟨i, hi⟩
  dsimp only
  refine ⟨fun hc => ?_, fun hc => ?_⟩
  · have hc := of_decide_eq_true hc
    have hg := hb.getD i
    have e := take_snoc l 0 i (by omega)
    have eW : (IntKind.i64.wrap (l.getD i 0)).tmod 24 = l.getD i 0 % 24 := by
      rw [wr_in _ (by omega) (by omega)]; exact Int.tmod_eq_emod_of_nonneg hg.1
    have h1 : (shp (l.take i)).length ≤ 100000 := by rw [shp_len, List.length_take]; omega
    rw [eW]
    refine ⟨⟨by omega, by omega⟩, fun _ => ⟨by decide, ⟨by omega, by omega⟩, by omega, by omega, ⟨i + 1, by omega⟩, ⟨AV.int_inj' (wr_succ i (by omega)), ?_⟩, ?_⟩⟩
    · rw [e, shp_app]; rfl
    · show l.length - (i + 1) < l.length - i
      omega
  · have hc := of_decide_eq_false hc
    rw [List.take_of_length_le (by omega)]
set_option maxHeartbeats 4000000 in
theorem walk13 {Phi : Nat → Option Ctr} (a b : List Int) : evC Phi (I13 a b) rc13 ⟨initS [.lst [.int .i64 0] (i64s a), .lst [.int .i64 0] (i64s b)], initM false []⟩ (kRet rv13 (.bool (decide (a = b))) false []) := by
  simp (config := {maxSteps := 2000000}) only [rc13, initM_f, rv13, evC_seq, evC_region, eo_mov, evG_no, Option.getD_some, ev_mov, av_c, gv_bool, bind1_some', un1_mov, goOp_some, put_q, evOps_nil, kEnd_at, hasG_no, hasG_nil, kEndB_f, kSeq_n, av_t, upd_at, Nat.reduceEqDiff, ↓reduceIte, initS_at, List.getD_cons_zero, gv_lst, eo_len, ev_len, len_lst, i64s_len, List.getD_cons_succ, eo_cmp, ev_cmp, gv_int, cmp2_some, cmp_neq, toR_some', evC_cond, evC_ret, kSeq_r, kRet_r, retOK_eq, retL_cons, retV_t, retL_nil, consO_some, lkR_one, lk1_bool, lkT_f, List.nil_append, applyL_nil, retOK_f, rtO_some, resV_one, leV1_bool, and_true, knowL_nil, askL_nil, evC_skip, evC_block, evC_loop, I13_0, L13aS, S13a, SL_ge, lkL_cons, lkS_lst, lkS_int, lkL_nil, lkM_nil, SL_ge0, leL_cons, leV1_lst, leV1_int, leL_nil, true_and, leM_nil, L13aR, SL_st, lookL_cons, cmp_lss, evC_draw, preK_some, needD_mov, preB_f, needD_iaddrS, needD_load, needD_cmp, preK_nil, evD_cons, evDk_some, newOK_none, Nat.zero_add, Nat.reduceAdd, ev_iaddrS, bind2_some', iaddrS_lst, List.length_cons, List.length_nil, beq_self_eq_true, iasB_true, Int.toNat_natCast, ev_load, gv_ep, load_ep, getE_i64, valOf_one, List.getElem?_cons_zero, ldV_some, evD_nil, kBlk_r, kLoop_r, kBlk_n, eo_arith, ev_arith, arith_add, kLoop_n, ar_t, condK_bool, knowD_cons, knowD_nil, knowL_cons, pairD_cons, pairOK_eq, newMen_none, List.contains_cons, Nat.reduceBEq, List.contains_nil, Bool.or_false, Bool.or_true, pairB_t, and_self, pairD_nil, pairB_f, chkR_eq, pslots_int, optN_some, disjN_nil, Bool.and_self, List.map_nil, newI_none, pslots_ep, pslots_lst, askL_cons, evC_exit, kSeq_e, kLoop_e, kBlk_e, kBlkB_t, true_imp_iff]
  intro h1 h2
  refine ⟨fun hc => ?_, fun hc => ?_⟩
  · have hc : ¬ (a.length : Int) = b.length := by simpa using hc
    refine AV.bool_inj' ?_
    rw [decide_eq_false (fun e => hc (by rw [e]))]
  · have hc : a.length = b.length := by
      have : (a.length : Int) = b.length := by simpa using hc
      omega
    refine ⟨⟨0, by omega, fun j hj => by omega⟩, rfl, ?_⟩
    rintro ⟨i, hi, he⟩ _
    dsimp only
    refine ⟨fun hc2 => ?_, fun hc2 => ?_⟩
    · have hc2 := of_decide_eq_true hc2
      refine ⟨⟨by omega, by omega⟩, ⟨by omega, by omega⟩, fun _ _ => ⟨fun hn => ?_, fun hn => ⟨⟨i + 1, by omega, ?_⟩, AV.int_inj' (wr_succ i (by omega)), ?_⟩⟩⟩
      · have hn : ¬ a.getD i 0 = b.getD i 0 := by simpa using hn
        refine AV.bool_inj' ?_
        rw [decide_eq_false (fun e => hn (by rw [e]))]
      · have hn : a.getD i 0 = b.getD i 0 := by simpa using hn
        intro j hj
        by_cases e : j = i
        · subst e; exact hn
        · exact he j (by omega)
      · show a.length - (i + 1) < a.length - i
        omega
    · have hc2 := of_decide_eq_false hc2
      refine AV.bool_inj' ?_
      have e : a = b := by
        apply List.ext_getElem hc
        intro j h1 h2
        have := he j (by omega)
        rw [List.getD_eq_getElem?_getD, List.getD_eq_getElem?_getD, List.getElem?_eq_getElem h1, List.getElem?_eq_getElem h2] at this
        exact this
      rw [decide_eq_true e]
end Go.Proofs.Ytfmndopgbikgjaa
