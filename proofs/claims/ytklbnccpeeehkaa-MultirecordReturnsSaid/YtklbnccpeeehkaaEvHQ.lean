/- A part of the proof: symbolic evaluation of the program's functions, proved sound against the model; no condition. -/
import Derived.Test.YtklbnccpeeehkaaEvHP
namespace Go.Proofs.Ytklbnccpeeehkaa
open Go Go.RowKit Go.Ev
set_option linter.unusedSimpArgs false
set_option linter.unusedVariables false
set_option maxRecDepth 20000
def dcV (b : List Int) : AV := if (dcR b).2.2 = 0 then .tup [.lst [.int .u8 0, .nil] (recs (dcR b).1), .int .i64 (dcR b).2.1, .int .i64 (dcR b).2.2] else .tup [.nil, .int .i64 (dcR b).2.1, .int .i64 (dcR b).2.2]
def CDv : Ctr := .mk false fun _ xs => match xs with
  | [.lst zz es] => some (((zz = [.int .u8 0] ∧ es = u8s (decU es)) ∧ es.length ≤ 100000) ∧ Okb (decU es), dcV (decU es), [])
  | _ => none
def CDw : Ctr := .ext false Unit fun _ xs => match xs with
  | [.lst zz es] => some (((zz = [.int .u8 0] ∧ es = u8s (decU es)) ∧ es.length ≤ 100000) ∧ Okb (decU es), fun _ => (True, dcV (decU es), []))
  | _ => none
def gEn (l : List Rc) (q : Bool) : Prop × AV × List AV := match q with
  | true => (vlR l = true, .tup [.fr 0 5 [.int .u8 0] (u8s (enL l)), .int .i64 0], [])
  | false => (vlR l = false, .tup [.nil, .int .i64 1], [])
def CEx : Ctr := .ext false Bool fun _ xs => match xs with
  | [.lst zz es] => some (zz = [.int .u8 0, .nil] ∧ es = recs (decR es), fun q => match q with
    | true => (vlR (decR es) = true, .tup [.fr 0 5 [.int .u8 0] (u8s (enL (decR es))), .int .i64 0], [])
    | false => (vlR (decR es) = false, .tup [.nil, .int .i64 1], []))
  | _ => none
def CDRf : Ctr := .ext true (List Rc × Int) fun cs xs => match cs, xs with
  | [.lst zz es, .int .i64 a], [.int .i64 n] => some ((zz = [.int .i64 0] ∧ es = i64s (decU es)) ∧ 0 ≤ a ∧ 0 ≤ n ∧ n ≤ 100, fun q => ((q.1.length ≤ n ∧ Okr q.1) ∧ 0 ≤ q.2, .fr 0 32 [.int .u8 0, .nil] (recs q.1), [.lst [.int .i64 0] (i64s (decU es)), .int .i64 q.2]))
  | _, _ => none
def XR (q : List Rc) (L : List Int) (a : Int) (P : List Int) : List Rc := q ++ [⟨dyV L a, P⟩]
theorem XR_ok {q : List Rc} {L : List Int} {a : Int} {P : List Int} (h1 : Okr q) (h2 : Okb P) : Okr (q ++ [⟨dyV L a, P⟩]) := fun r hr => (List.mem_append.1 hr).elim (h1 r) fun h => by rw [List.mem_singleton.1 h]; exact ⟨dy_bd L a, h2⟩
theorem enL_pos {X : List Rc} (hv : vlR X = true) (h : 0 < X.length) : 5 ≤ (enL X).length := by
  rw [enL_eq hv]
  obtain ⟨T, hT⟩ := enP_split X X.length 0 h
  rw [hT, enO_eq]; simp only [List.length_append, hsR_len]; omega
theorem dcV_full (q : List Rc) (r : Rc) (T : List Int) (hv : vlR (q ++ [r]) = true) : dcV (enL (q ++ [r]) ++ T) = .tup [.lst [.int .u8 0, .nil] (recs (q ++ [r])), .int .i64 ((enL (q ++ [r])).length : Int), .int .i64 0] := by
  have e := dc_full (q ++ [r]) hv (by simp) T
  unfold dcV; rw [e]; rfl
theorem dcV_cut (q : List Rc) (r : Rc) (a : Int) (hv : vlR (q ++ [r]) = true) : dcV ((enL (q ++ [r])).take ((modI a ((enL (q ++ [r])).length : Int)).toNat - 0)) = .tup [.nil, .int .i64 0, .int .i64 4] := by
  have h5 := enL_pos hv (by simp)
  have h6 := enL_len (q ++ [r])
  have bd := modI_bd (n := a) (m := ((enL (q ++ [r])).length : Int)) (by omega) (by omega)
  have e := dc_cut (q ++ [r]) hv ((modI a ((enL (q ++ [r])).length : Int)).toNat - 0) (by omega)
  unfold dcV; rw [e]; rfl
theorem xor_ne {x m : Int} (hx : 0 ≤ x ∧ x ≤ 255) (hm : 0 ≤ m ∧ m ≤ 255) (h0 : m ≠ 0) : (0 ≤ bitsI BinOp.xor IntKind.u8 x m ∧ bitsI BinOp.xor IntKind.u8 x m ≤ 255) ∧ bitsI BinOp.xor IntKind.u8 x m ≠ x := by
  obtain ⟨n, rfl⟩ : ∃ n : Nat, x = n := ⟨x.toNat, by omega⟩
  obtain ⟨k, rfl⟩ : ∃ n : Nat, m = n := ⟨m.toNat, by omega⟩
  have hl := (BitVec.ofInt 8 (n : Int) ^^^ BitVec.ofInt 8 (k : Int)).isLt
  have hw : bitsI BinOp.xor IntKind.u8 (n : Int) (k : Int) = (((BitVec.ofInt 8 (n : Int) ^^^ BitVec.ofInt 8 (k : Int)).toNat : Nat) : Int) := by
    show IntKind.u8.wrap (((BitVec.ofInt 8 (n : Int) ^^^ BitVec.ofInt 8 (k : Int)).toNat : Nat) : Int) = _
    rw [IntKind.wrap_u8]; omega
  rw [hw]
  have e1 : (BitVec.ofInt 8 (n : Int)).toNat = n := by rw [BitVec.toNat_ofInt]; omega
  have e2 : (BitVec.ofInt 8 (k : Int)).toNat = k := by rw [BitVec.toNat_ofInt]; omega
  refine ⟨⟨by omega, by omega⟩, fun h => h0 ?_⟩
  have e : BitVec.ofInt 8 (n : Int) ^^^ BitVec.ofInt 8 (k : Int) = BitVec.ofInt 8 (n : Int) := BitVec.eq_of_toNat_eq (by rw [e1]; omega)
  have e3 : BitVec.ofInt 8 (k : Int) = 0#8 := by
    have := congrArg (BitVec.ofInt 8 (n : Int) ^^^ ·) e
    simpa [← BitVec.xor_assoc] using this
  rw [e3] at e2
  have : (0#8).toNat = 0 := rfl
  omega
theorem dcV_flip (m : Int) (hm : 0 ≤ m ∧ m ≤ 255) (X : List Rc) (a : Int) (hv : vlR X = true) (ho : Okr X) (hp : 0 < X.length) (h0 : decide (m = 0) = false) :
    dcV ((enL X).set (modI a ((enL X).length : Int)).toNat (bitsI BinOp.xor IntKind.u8 ((enL X).getD (modI a ((enL X).length : Int)).toNat 0) m)) = .tup [.nil, .int .i64 0, .int .i64 5] := by
  have h5 := enL_pos hv hp
  have h6 := enL_len X
  have bd := modI_bd (n := a) (m := ((enL X).length : Int)) (by omega) (by omega)
  have hx := xor_ne ((enL_ok ho).getD (modI a ((enL X).length : Int)).toNat) hm (of_decide_eq_false h0)
  have e := dc_flip X hv ho (modI a ((enL X).length : Int)).toNat (by omega) _ hx.1 hx.2
  have e1 : (dcR ((enL X).set (modI a ((enL X).length : Int)).toNat (bitsI BinOp.xor IntKind.u8 ((enL X).getD (modI a ((enL X).length : Int)).toNat 0) m))).2.2 = 5 := by rw [e]
  simp only [dcV, e]
  exact if_neg (by decide)
theorem XR_pos (q : List Rc) (r : Rc) : (0 < (q ++ [r]).length) = True := by simp
theorem XR_okT (q : List Rc) (L P : List Int) (a : Int) (h1 : Okr q) (h2 : Okb P) : Okr (q ++ [⟨dyV L a, P⟩]) = True := eq_true (XR_ok h1 h2)
theorem flatU (l : List Int) : FlatE (u8s l) := by
  intro e he
  obtain ⟨k, _, rfl⟩ := List.mem_map.1 he
  rfl
set_option maxHeartbeats 4000000 in
theorem walk24x {Phi : Nat → Option Ctr} (P26 : Phi 26 = some CVl) (P35 : Phi 35 = some CSu) (P36 : Phi 36 = some CSe) (l : List Rc) : evC Phi (I24 l) rc24 ⟨initS [.lst [.int .u8 0, .nil] (recs l)], initM false []⟩ (kRetX rv24 false (gEn l)) := by
  simp (config := {maxSteps := 2000000, contextual := true}) only [rc24, initM_f, rv24, evC_seq, evC_region, eo_mov, evG_no, Option.getD_some, ev_mov, av_c, gv_nil, bind1_some', un1_mov, goOp_some, put_q, gv_int, evOps_nil, kEnd_at, hasG_no, hasG_nil, kEndB_f, kSeq_n, av_t, upd_at, Nat.reduceEqDiff, ↓reduceIte, initS_at, List.getD_cons_zero, gv_lst, eo_call, P26, CVl, evCl_mk, ev_call, avs_cons, avs_nil, consO_some, clO_some, call_pure, lends_cons, lend1_lst, lends_nil, consL_some', List.nil_append, callN_some, decR_recs, and_self, callP_some, c2_bool, flat2_bool, backOK_nil, Bool.and_self, clQ_t, eo_not, ev_not, gv_bool, un1_not, evC_cond, evC_ret, kSeq_r, kRetX_r, knowL_nil, askL_nil, evC_skip, eo_len, ev_len, len_lst, recs_len, evC_block, evC_loop, I24_0, L24aS, S24a, SL_ge, lkL_cons, lkS_lst, lkS_nil_vw, lookM_cons, nlK_buf, lkS_int, lkL_nil, List.cons_append, lkM_cons, lkB_buf, lkM_nil, applyL_nls, nlV_nil, Nat.reduceLeDiff, decide_true, List.length_cons, List.length_nil, Nat.zero_add, Nat.reduceLT, nlP_t, applyL_nil, SL_ge0, leL_cons, killS_at, kill3_lst, leV1_lst, leV1_vw, kill3_int, leV1_int, leL_nil, and_true, true_and, leM_cons, updM_at, leB_buf, leM_nil, L24aR, SL_st, eo_cmp, ev_cmp, lookL_cons, cmp2_some, cmp_lss, toR_some', eo_iaddrS, ev_iaddrS, bind2_some', iaddrS_lst, Nat.reduceAdd, beq_self_eq_true, iasB_true, Int.toNat_natCast, eo_load, ev_load, gv_ep, load_ep, valOf_agg, knowL_cons, askL_cons, evC_exit, kSeq_e, kLoop_e, kBlk_e, kBlkB_t, gv_vw, ar_t, condK_bool, getE_rec, valB_true, List.drop_zero, List.take_succ_cons, List.take_zero, ldV_some, eo_alloc, ev_alloc, Nat.reduceMul, put_n, killB_cells, List.map_cons, kill0_int, kill0_nil, List.map_nil, eo_store, kill3_agg, kill0_lst, vwsT_ptr, frzL_nil, goF_eq, Option.getD_none, ev_store, gv_ptr, gv_agg, store_ptr, cells_agg, stB_cells, stC_true, setC_cons, List.set_cons_zero, List.set_cons_succ, setC_nil, put_s, liveB_cells, evC_draw, preK_some, needD_faddr, preB_f, needD_load, needD_len, needD_conv, needD_call, needD_bsliceO, preB_t, needD_mov, preK_nil, evD_cons, ev_faddr, kill3_ptr, faddr_ptr, Nat.add_zero, evDk_some, newOK_none, load_ptr, killM_at, killO_some, ldB_cells, valOf_one, List.getElem?_cons_zero, List.getElem?_cons_succ, u8s_len, ev_conv, un1_conv, P35, CSu, decU_u8s, c2_int, flat2_int, ev_bsliceO, List.replicate_succ, List.replicate_zero, fillS_cons, fsK_some, cells_int, fsC_some, List.all_cons, c0_int, List.all_nil, fillS_nil, blO2_some, newOK_some, deadL_nil, killB_buf, liveB_buf, evD_nil, eo_arith, ev_arith, arith_sub, cmp_eql, iaddrS_vw, iasV_buf, iasW_t, Int.reduceLE, Int.reduceToNat, gv_bp, load_bp, ldP_buf, getE_lit1, ldQ_t, arith_or, vwsT_bp, vws1_int, store_bp, stP_buf, stQ_t, evC_ghost, vws0_vw, frzL_cons, frzQ_buf, frzP_t, needD_appD, frzSl_at, kill3_vw, frz3_vw, P36, CSe, decU_cons, decU_nil, c2_lst, flat2_lst, ev_appD, appDR_vw, ysOf_lst, Nat.reduceBEq, frzM_at, frzO_some, frzB_buf, appDV_buf, appDK_some, Nat.mul_one, u8s_join, deadL_dead, put_nd, frz3_ptr, frzB_cells, frz0_int, frz0_lst, kBlk_n, frz3_int, arith_add, kLoop_n, frz3_lst, lkS_vw_vw, renK_f, killO_none, applyL_ren, renQ_buf, Bool.not_false, renP_t, renSl_at, ren3_lst, ren3_vw, ren3_int, knowD_cons, knowD_nil, pairD_cons, pairOK_eq, newMen_none, List.contains_cons, List.contains_nil, Bool.or_false, Bool.or_true, pairB_t, pairD_nil, newMen_some, noMen_eq, noB_none, killB_dead, noB_some, pairB_f, chkR_eq, pslots_lst, optN_some, disjN_nil, pslots_vw, newI_some, newI_none, disjN_cons, pslots_ptr, true_imp_iff, pslots_int]
  refine ⟨fun h => ?_, fun h _ => ⟨⟨0, by omega⟩, ⟨rfl, rfl⟩, ?_⟩⟩
  · have h : vlR l = false := by simpa using h
    refine ⟨false, ?_⟩
    simp only [gEn, retXG_eq, retX_eq, retL_cons, retV_t, upd_at, Nat.reduceEqDiff, ↓reduceIte, retL_nil, consO_some, lkR_two, lkVs_cons, lk1_nil, lk1_int, lkVs_nil, List.nil_append, lkT_f, applyL_nil, retX0_eq, resXO_some, resX_two, leXV_cons, leX1_nil, leA_nilnil, leX1_int, leA_int, leXV_nil, and_self, pqR_two, pqV_cons, pq1_nil, pq1_int, pqV_nil, pqK_nil, nodupN_nil, List.all_nil, frs2_tup, frsV_cons, frs1_nil, frs1_int, frsV_nil, idsOK_eq, List.map_nil, Bool.and_self, wfRes_two, wfX2_tup, List.all_cons, wfX1_nil, wfX1_int, resXT_f, and_true]
    exact h
  have hv : vlR l = true := by simpa using h
  obtain ⟨g1, g2, g3⟩ := vlR_iff hv
  have hb : bitsI BinOp.or IntKind.u8 2 128 = 130 := by decide +kernel
  rintro ⟨i, hi⟩
  dsimp only
  refine ⟨fun hc => ?_, fun hc => ?_⟩
  · have hc := of_decide_eq_true hc
    have hp := enP_len g2 i
    have h2 := g2 _ (getD_mem l i (by omega))
    rw [wr_in ((l.length : Int) - 1) (by omega) (by omega), hb]
    refine ⟨⟨by omega, by omega⟩, by omega, fun _ => ⟨fun he => ?_, fun he => ?_⟩⟩
    · have he := of_decide_eq_true he
      refine ⟨by decide, by decide, rfl, by omega, by omega, ?_, ?_, ⟨i + 1, by omega⟩, ⟨AV.int_inj' (wr_succ i (by omega)), ?_⟩, by dsimp only; omega⟩
      · simp only [List.length_append, List.length_cons, List.length_nil]; omega
      · simp only [List.length_append, List.length_cons, List.length_nil]; omega
      · show u8s _ = u8s (enP l i ++ enO l i)
        rw [enO, hdR, if_pos (show i + 1 = l.length by omega), List.append_assoc]; rfl
    · have he := of_decide_eq_false he
      refine ⟨rfl, by omega, by omega, ?_, ?_, ⟨i + 1, by omega⟩, ⟨AV.int_inj' (wr_succ i (by omega)), ?_⟩, by dsimp only; omega⟩
      · simp only [List.length_append, List.length_cons, List.length_nil]; omega
      · simp only [List.length_append, List.length_cons, List.length_nil]; omega
      · show u8s _ = u8s (enP l i ++ enO l i)
        rw [enO, hdR, if_neg (show ¬ i + 1 = l.length by omega), List.append_assoc]; rfl
  · have hc := of_decide_eq_false hc
    refine ⟨true, ?_⟩
    simp only [gEn, retXG_eq, retX_eq, retL_cons, retV_t, upd_at, Nat.reduceEqDiff, ↓reduceIte, retL_nil, consO_some, lkR_two, lkVs_cons, lk1_vw_fr, lk1_int, lkVs_nil, List.nil_append, lkT_f, applyL_nil, retX0_eq, resXO_some, resX_two, leXV_cons, leX1_fr_vw, lookM_cons, leFB_buf, true_and, leX1_int, leA_int, leXV_nil, and_self, and_true, pqR_two, pqV_cons, pq1_fr_vw, pq1_int, pqV_nil, List.cons_append, pqK_some, pqK_nil, nodupN_cons, List.contains_nil, Bool.not_false, nodupN_nil, Bool.and_self, List.all_cons, Nat.reduceLeDiff, decide_true, List.all_nil, frs2_tup, frsV_cons, frs1_fr, frs1_int, frsV_nil, idsOK_eq, List.map_cons, List.map_nil, Nat.reduceLT, wfRes_two, wfX2_tup, wfX1_fr, List.length_cons, List.length_nil, Nat.zero_add, wfX1_int, lookM_nil, resXT_f]
    rw [show i = l.length by omega, enL, if_pos hv]
    exact ⟨hv, rfl⟩
set_option maxHeartbeats 4000000 in
theorem walk30n {Phi : Nat → Option Ctr} (P26 : Phi 26 = some CVl) (P33 : Phi 33 = some CCl) (P35 : Phi 35 = some CSu) (b : List Int) (hl : b.length ≤ 100000) (hb : Okb b) (h0 : ¬ (dcR b).2.2 = 0) : evC Phi (I30 b) rc30 ⟨initS [.lst [.int .u8 0] (u8s b)], initM false []⟩ (kRet rv30 (.tup [.nil, .int .i64 (dcR b).2.1, .int .i64 (dcR b).2.2]) false []) := by
  simp (config := {maxSteps := 2000000}) only [rc30, initM_f, rv30, evC_seq, evC_region, eo_mov, evG_no, Option.getD_some, ev_mov, av_c, gv_nil, bind1_some', un1_mov, goOp_some, put_q, gv_int, evOps_nil, kEnd_at, hasG_no, hasG_nil, kEndB_f, kSeq_n, evC_block, evC_loop, I30_0, L30aS, S30a, SL_ge, lkL_cons, upd_at, Nat.reduceEqDiff, ↓reduceIte, initS_at, List.getD_cons_zero, lkS_lst, lkS_nil_vw, lookM_cons, nlK_buf, lkS_int, lkL_nil, List.nil_append, List.cons_append, lkM_cons, lkB_buf, lkM_nil, applyL_nls, nlV_nil, Nat.reduceLeDiff, decide_true, List.length_cons, List.length_nil, Nat.zero_add, Nat.reduceAdd, Nat.reduceLT, Bool.and_self, nlP_t, applyL_nil, SL_ge0, leL_cons, killS_at, kill3_lst, leV1_lst, leV1_vw, kill3_int, leV1_int, leL_nil, and_true, true_and, leM_cons, updM_at, leB_buf, leM_nil, L30aR, SL_st, av_t, lookL_cons, gv_lst, eo_len, ev_len, len_lst, u8s_len, eo_arith, ev_arith, bind2_some', arith_sub, eo_cmp, ev_cmp, cmp2_some, cmp_lss, toR_some', evC_cond, evC_ret, kSeq_r, kBlk_r, kLoop_r, kRet_r, retOK_eq, retL_cons, retV_t, retL_nil, consO_some, lkR_two, lkVs_cons, lk1_nil, lk1_int, lkVs_nil, lkT_f, retOK_f, rtO_some, resV_two, leVs_cons, leV1_nil, leA_nilnil, leVs_nil, knowL_nil, askL_nil, evC_skip, arith_add, eo_slice, ev_slice, boundA_some, optS_some, sliceO_some, slice_lst, loOf_int, hiOf_int, beq_self_eq_true, slL_some, Int.toNat_natCast, u8s_drop, u8s_take, evC_draw, preK_some, needD_mov, preB_f, needD_arith, needD_iaddrS, needD_load, needD_conv, preK_nil, evD_cons, evDk_some, newOK_none, ev_iaddrS, iaddrS_lst, iasB_true, Int.reduceLE, Int.reduceToNat, ev_load, gv_ep, load_ep, getE_u8, valOf_one, List.getElem?_cons_zero, ldV_some, ev_conv, un1_conv, evD_nil, eo_call, P35, CSu, evCl_mk, ev_call, avs_cons, avs_nil, clO_some, call_pure, lends_cons, lend1_lst, lends_nil, consL_some', callN_some, decU_u8s, and_self, callP_some, c2_int, flat2_int, backOK_nil, clQ_t, cmp_neq, gv_bool, eo_iaddrS, eo_load, arith_andNot, needD_slice, needD_call, needD_cmp, gv_vw, len_vw, lenV_buf, recs_len, cmp_eql, kBlk_n, needD_build, needD_bslice, needD_appD, preB_t, Nat.reduceMul, kill3_vw, P33, CCl, c2_lst, flat2_lst, ev_build, fillA_cons, faK_some, cells_int, faC_some, setC_cons, List.set_cons_zero, setC_nil, cells_lst, List.set_cons_succ, fillA_nil, blO_some, ev_bslice, List.replicate_succ, List.replicate_zero, fillS_cons, gv_agg, fsK_some, cells_agg, fsC_some, List.all_cons, c0_int, c0_lst, List.all_nil, fillS_nil, blS_some, ev_appD, appDR_vw, ysOf_lst, Nat.reduceBEq, killM_at, killO_some, killB_buf, appDV_buf, appDK_some, recs_snoc, newOK_some, deadL_dead, deadL_nil, liveB_buf, put_nd, arith_and, evC_exit, kBlk_e, kBlkB_f, kLoop_e, kBlkB_t, P26, CVl, lend1_vw, lendB_buf, decR_recs, c2_bool, flat2_bool, backOK_cons, eo_not, ev_not, un1_not, lk1_vw_nil, ar_t, condK_bool, askL_cons, kLoop_n, lkS_vw_vw, renK_f, killO_none, applyL_ren, renQ_buf, Bool.not_false, renP_t, renSl_at, ren3_lst, ren3_vw, ren3_int, knowL_cons, knowD_cons, knowD_nil, pairD_cons, pairOK_eq, newMen_none, List.contains_cons, List.contains_nil, Bool.or_false, Bool.or_true, pairB_t, pairD_nil, pairB_f, chkR_eq, pslots_vw, optN_some, disjN_nil, pslots_int, List.map_nil, newI_none, List.map_cons, newI_some, disjN_cons, newMen_some, noMen_eq, noB_none, pslots_lst, pslots_agg, pslots_ep, kill3_agg, kill0_int, kill0_lst, kill3_ep, true_imp_iff]
  refine ⟨⟨b.length + 1, 0, [], by omega, by omega, rfl, by simp⟩, ⟨rfl, rfl⟩, ?_⟩
  rintro ⟨f, n, l, hf, hn, he, hl16⟩ _
  obtain ⟨f, rfl⟩ : ∃ f', f = f' + 1 := ⟨f - 1, by omega⟩
  dsimp only
  simp only [dcF] at he
  have w0 : IntKind.i64.wrap ((b.length : Int) - n) = (b.length : Int) - n := wr_in _ (by omega) (by omega)
  have w5 : IntKind.i64.wrap ((n : Int) + 5) = (n : Int) + 5 := wr_in _ (by omega) (by omega)
  have t6 : ((n : Int) + 5).toNat = n + 5 := by omega
  simp only [w0, w5, t6, Nat.add_sub_cancel_left]
  refine ⟨fun h1 => ?_, fun h1 => ?_⟩
  · have h1 := of_decide_eq_true h1
    rw [if_pos (by omega)] at he
    rw [he]; exact ⟨rfl, rfl⟩
  have h1 := of_decide_eq_false h1
  rw [if_neg (by omega)] at he
  have hH : ((b.drop n).take 5).length = 5 := by simp only [List.length_take, List.length_drop]; omega
  have hHo : Okb ((b.drop n).take 5) := (hb.drop n).take 5
  have hk := hHo.getD 2
  obtain ⟨k, hk'⟩ : ∃ k : Nat, ((b.drop n).take 5).getD 2 0 = k := ⟨_, (Int.toNat_of_nonneg hk.1).symm⟩
  rw [hk'] at hk
  have wk : IntKind.i64.wrap (k : Int) = k := wr_in _ (by omega) (by omega)
  have w7 : IntKind.i64.wrap ((n : Int) + 5 + k) = (n : Int) + 5 + k := wr_in _ (by omega) (by omega)
  have w8 : IntKind.i64.wrap ((b.length : Int) - n - 5) = (b.length : Int) - n - 5 := wr_in _ (by omega) (by omega)
  have w9 : IntKind.i64.wrap (5 + (k : Int)) = 5 + k := wr_in _ (by omega) (by omega)
  have w10 : IntKind.i64.wrap ((n : Int) + (5 + k)) = n + (5 + k) := wr_in _ (by omega) (by omega)
  have t7 : ((n : Int) + 5 + k).toNat = n + 5 + k := by omega
  simp only [hk', wk, w7, w8, w9, w10, t7, Nat.add_sub_cancel_left, Int.toNat_natCast] at he ⊢
  have hD : ((b.drop (n + 5)).take k).length ≤ 100000 := by simp only [List.length_take, List.length_drop]; omega
  have hDo : Okb ((b.drop (n + 5)).take k) := (hb.drop _).take _
  generalize (b.drop n).take 5 = H at he hH hHo hk' ⊢
  have hx := hHo.getD 1
  rw [bit_an hx, bit_and hx]
  refine ⟨⟨by omega, by omega, by omega⟩, by omega, fun _ => ⟨by omega, fun h2 => ?_, fun h2 => ?_⟩⟩
  · have h2 : ¬ c8 H = 0 := by simpa using h2
    rw [if_pos h2] at he
    rw [he]; exact ⟨rfl, rfl⟩
  have h2 : c8 H = 0 := by simpa using h2
  rw [if_neg (fun h => h h2)] at he
  refine ⟨by omega, fun _ => ⟨fun h3 => ?_, fun h3 _ => ⟨fun h4 => ?_, fun h4 => ?_⟩⟩⟩
  · have h3 : ¬ H.getD 1 0 % 128 = 2 := of_decide_eq_false (by simpa only [Bool.not_eq_true'] using h3)
    rw [if_pos h3] at he
    rw [he]; exact ⟨rfl, rfl⟩
  · have h3 : H.getD 1 0 % 128 = 2 := of_decide_eq_true (by simpa only [Bool.not_eq_false'] using h3)
    rw [if_neg (fun h => h h3)] at he
    have h4 := of_decide_eq_true h4
    rw [if_pos (by omega)] at he
    rw [he]; exact ⟨rfl, rfl⟩
  have h3 : H.getD 1 0 % 128 = 2 := of_decide_eq_true (by simpa only [Bool.not_eq_false'] using h3)
  have h4 := of_decide_eq_false h4
  rw [if_neg (fun h => h h3), if_neg (by omega)] at he
  refine ⟨⟨by omega, by omega, by omega⟩, hD, by omega, fun _ => ⟨fun h5 => ?_, fun h5 _ => ⟨fun h6 => ?_, fun h6 => ?_⟩⟩⟩
  · have h5 : ¬ c8 ((b.drop (n + 5)).take k) = H.getD 3 0 := of_decide_eq_false (by simpa only [Bool.not_eq_true'] using h5)
    rw [if_pos h5] at he
    rw [he]; exact ⟨rfl, rfl⟩
  · have h5 : c8 ((b.drop (n + 5)).take k) = H.getD 3 0 := of_decide_eq_true (by simpa only [Bool.not_eq_false'] using h5)
    have h6 := of_decide_eq_true h6
    rw [if_neg (fun h => h h5), if_pos (by omega)] at he
    rw [he]; exact ⟨rfl, rfl⟩
  have h5 : c8 ((b.drop (n + 5)).take k) = H.getD 3 0 := of_decide_eq_true (by simpa only [Bool.not_eq_false'] using h5)
  have h6 := of_decide_eq_false h6
  rw [if_neg (fun h => h h5), if_neg (by omega)] at he
  refine ⟨by omega, ⟨by omega, by omega, by omega⟩, hD, by omega, by omega, fun _ => ⟨by omega, fun _ => ⟨fun h7 => ?_, fun h7 => ?_⟩⟩⟩
  · have h7 : ¬ H.getD 1 0 < 128 := fun h => by rw [if_pos h] at h7; simp at h7
    rw [if_neg h7] at he
    refine ⟨fun hv => ?_, fun hv => ?_⟩
    · rw [if_neg (by simpa using hv)] at he
      rw [he]; exact ⟨rfl, rfl⟩
    · rw [if_pos (by simpa using hv)] at he
      exact absurd (by rw [he]) h0
  · have h7 : H.getD 1 0 < 128 := by
      by_cases h : H.getD 1 0 < 128
      · exact h
      · rw [if_neg h] at h7; simp at h7
    rw [if_pos h7] at he
    exact ⟨⟨f, n + 5 + k, _, by omega, by omega, he, by simp only [List.length_append, List.length_cons, List.length_nil]; omega⟩, ⟨AV.int_inj' (by dsimp only; omega), rfl⟩, by dsimp only; omega⟩
set_option maxHeartbeats 4000000 in
theorem walk15f {Phi : Nat → Option Ctr} (P12 : Phi 12 = some CDBo) (P13 : Phi 13 = some CDb) (P14 : Phi 14 = some CDx) (L : List Int) (a n : Int) (ha : 0 ≤ a) (hn : 0 ≤ n ∧ n ≤ 100) : evC Phi (I15o L n) rc15 ⟨initS (.ptr 0 0 :: [.int .i64 n]), initM true [.lst [.int .i64 0] (i64s L), .int .i64 a]⟩ (kRetX rv15 true (fun q : List Rc × Int => ((q.1.length ≤ n ∧ Okr q.1) ∧ 0 ≤ q.2, .fr 0 32 [.int .u8 0, .nil] (recs q.1), [.lst [.int .i64 0] (i64s L), .int .i64 q.2]))) := by
  simp (config := {maxSteps := 2000000}) only [rc15, initM_t, rv15, evC_seq, evC_region, eo_mov, evG_no, Option.getD_some, ev_mov, av_c, gv_nil, bind1_some', un1_mov, goOp_some, put_q, evOps_nil, kEnd_at, hasG_no, hasG_nil, kEndB_f, kSeq_n, av_t, upd_at, Nat.reduceEqDiff, ↓reduceIte, initS_at, List.getD_cons_zero, gv_ptr, List.getD_cons_succ, gv_int, eo_arith, ev_arith, bind2_some', arith_add, eo_call, P14, CDx, evCl_mk, ev_call, avs_cons, avs_nil, consO_some, clO_some, call_state, updM_at, callC_cells, lends_cons, lend1_int, lends_nil, consL_some', List.nil_append, callB_some, List.all_cons, c0_lst, c0_int, List.all_nil, Bool.and_self, decI_i64s, and_self, true_and, callD_t, callS_some, c2_int, flat2_int, flat0_lst, flat0_int, Bool.and_true, Bool.true_and, backOK_nil, clU_t, put_u, liveB_cells, evC_block, evC_loop, I15o_0, L15oaS, S15oa, SL_ge, lkL_cons, lkS_ptr, lkS_nil_vw, lookM_cons, nlK_buf, lkS_int, lkL_nil, List.cons_append, lkM_cons, lkB_cells, lkC_cons, lkC0_lst, Nat.zero_add, lkC0_int, Nat.reduceAdd, lkC_nil, lkB_buf, lkM_nil, applyL_nls, nlV_nil, Nat.reduceLeDiff, decide_true, List.length_cons, List.length_nil, Nat.reduceLT, nlP_t, applyL_nil, SL_ge0, leL_cons, killS_at, kill3_ptr, leV1_ptr, leV1_vw, kill3_int, leV1_int, leL_nil, and_true, leM_cons, killM_at, killO_some, killB_cells, List.map_cons, kill0_lst, kill0_int, List.map_nil, leB_cells, leAs_cons, leA_lst, leA_int, leAs_nil, leB_buf, leM_nil, L15oaR, SL_st, lookL_cons, eo_cmp, ev_cmp, cmp2_some, cmp_gtr, toR_some', evC_cond, evC_skip, eo_conv, ev_conv, un1_conv, P12, CDBo, evCl_ext, evXV_some, evX_t, evXC_cells, evXB_some, Int.reduceLE, evXM_some, evXS_eq, wfX2_lst, frs2_lst, idsOK_eq, nodupN_nil, flatX2_lst, flatL_nil, evOpsk_at, eo_build, ev_build, fillA_cons, backX_nil, setB_eq, putX_eq, unfr2_lst, addF_nil, putY_eq, faK_some, cells_int, faC_some, setC_cons, List.set_cons_zero, setC_nil, gv_lst, cells_lst, List.set_cons_succ, fillA_nil, blO_some, eo_alloc, ev_alloc, Nat.reduceMul, put_n, kill0_nil, eo_store, ar_t, kill3_agg, vwsT_ptr, frzL_nil, goF_eq, Option.getD_none, ev_store, gv_agg, store_ptr, cells_agg, stB_cells, stC_true, put_s, P13, CDb, W, c2_bool, flat2_bool, eo_mkslice, ev_mkslice, mk_int, u8s_rep, killB_buf, eo_faddr, ev_faddr, faddr_ptr, gv_vw, cells_vw, kill3_vw, eo_load, ev_load, load_ptr, ldB_cells, valOf_agg, valB_true, List.drop_zero, List.take_succ_cons, List.take_zero, ldV_some, eo_bsliceO, vwsG_cons, vws1_agg, vwsL_cons, vws0_int, vws0_vw, vwsL_nil, vwsG_nil, frzL_cons, frzQ_buf, frzP_t, ev_bsliceO, List.replicate_succ, List.replicate_zero, fillS_cons, frzSl_at, frz3_agg, frz0_int, frz0_vw, fsK_some, fsC_some, fillS_nil, blO2_some, eo_append, ev_append, frz3_vw, appR_vw, ysOf_vw, ysV_buf, frzM_at, frzO_some, frzB_buf, appV_buf, appK_some, recs_len, recs_snoc, kBlk_n, frz3_int, arith_sub, kLoop_n, frz3_ptr, lkS_vw_vw, beq_self_eq_true, renK_t, frzB_cells, frz0_lst, knowL_nil, askL_nil, askL_cons, vws0_lst, condK_bool, evC_exit, kSeq_e, kLoop_e, kBlk_e, kBlkB_t, evC_ret, kRetX_r, retXG_eq, retX_eq, retL_cons, retV_t, retL_nil, lkR_one, lk1_vw_fr, lkT_t, retX0_eq, resXO_some, resX_one, leX1_fr_vw, leFB_buf, pqR_one, pq1_fr_vw, pqK_some, pqK_nil, nodupN_cons, List.contains_nil, Bool.not_false, frs2_fr, wfRes_one, wfX1_fr, resXT_t, true_imp_iff]
  have w : IntKind.i64.wrap (n + 1) = n + 1 := wr_in _ (by omega) (by omega)
  rw [w]
  have b := dx_bd (L := L) (a := a) (m := n + 1) (by omega) (by omega)
  refine ⟨⟨ha, by omega⟩, ⟨dxA L a, (dxV L a (n + 1)).toNat, [], dxA_nn ha, by simp only [List.length_nil]; omega, fun r hr => by cases hr⟩, ⟨AV.int_inj' (by dsimp only; omega), rfl, rfl⟩, ?_⟩
  rintro ⟨b', k, o, h1, h2, h3⟩
  dsimp only
  refine ⟨fun hc => ?_, fun hc => ⟨(o, b'), ⟨⟨by dsimp only; omega, h3⟩, h1⟩, rfl, rfl⟩⟩
  have hc := of_decide_eq_true hc
  have hs : ∀ x : Rc, ((0 ≤ x.ty ∧ x.ty ≤ 255) ∧ Okb x.d) → Okr (o ++ [x]) := fun x hx r hr => (List.mem_append.1 hr).elim (h3 r) fun h => by rw [List.mem_singleton.1 h]; exact hx
  refine ⟨⟨h1, by omega⟩, dxA_nn h1, ?_⟩
  rintro ⟨P, b2⟩ ⟨⟨h4, hP⟩, h5⟩
  dsimp only at h4 hP h5 ⊢
  have h6 := dxA_nn (L := L) h5
  refine ⟨⟨h5, by omega⟩, fun _ => ?_, fun _ => ?_⟩
  · have bd := dx_bd (L := L) (a := dxA L b2) (m := 3) (by omega) (by omega)
    have w2 : IntKind.i64.wrap (254 + dxV L (dxA L b2) 3) = 254 + dxV L (dxA L b2) 3 := wr_in _ (by omega) (by omega)
    rw [w2]
    exact ⟨⟨h6, by omega⟩, ⟨by omega, by omega, by omega, by omega⟩, by omega, by omega, ⟨dxA L (dxA L b2), k - 1, o ++ [⟨IntKind.u8.wrap (dxV L b' 4), List.replicate (254 + dxV L (dxA L b2) 3).toNat 0⟩], dxA_nn h6, by simp only [List.length_append, List.length_cons, List.length_nil]; omega, hs _ ⟨by dsimp only; rw [IntKind.wrap_u8]; omega, fun y hy => by rw [List.eq_of_mem_replicate hy]; decide⟩⟩, ⟨AV.int_inj' (by rw [wr_in _ (by omega) (by omega)]; dsimp only; omega), rfl, rfl⟩, by dsimp only; omega⟩
  · exact ⟨by omega, by omega, ⟨dxA L b2, k - 1, o ++ [⟨IntKind.u8.wrap (dxV L b' 4), P⟩], h6, by simp only [List.length_append, List.length_cons, List.length_nil]; omega, hs _ ⟨by dsimp only; rw [IntKind.wrap_u8]; omega, hP⟩⟩, ⟨AV.int_inj' (by rw [wr_in _ (by omega) (by omega)]; dsimp only; omega), rfl, rfl⟩, by dsimp only; omega⟩
end Go.Proofs.Ytklbnccpeeehkaa
