/- A part of the proof: symbolic evaluation of the program's functions, proved sound against the model; no condition. -/
import Derived.Test.YtklbnccpeeehkaaEvHD
namespace Go.Proofs.Ytklbnccpeeehkaa
open Go Go.RowKit Go.Ev
set_option linter.unusedSimpArgs false
set_option linter.unusedVariables false
set_option maxRecDepth 20000
/-- A copy as a buffer of its own. -/
def CCy : Ctr := .ext false Unit fun _ xs => match xs with
  | [.lst zz es] => some (((zz = [.int .u8 0, .nil] ∧ es = recs (decR es)) ∧ ∀ r ∈ decR es, r.d.length ≤ 1000) ∧ es.length ≤ 1000, fun _ => (True, .fr 0 32 [.int .u8 0, .nil] (recs (decR es)), []))
  | _ => none
/-- The bytes of a list. -/
def hdR (l : List Rc) (i : Nat) : List Int := [(l.getD i r0).ty, if i + 1 = l.length then 130 else 2, IntKind.u8.wrap (l.getD i r0).d.length, c8 (l.getD i r0).d]
def enO (l : List Rc) (i : Nat) : List Int := (hdR l i ++ [c8 (hdR l i)]) ++ (l.getD i r0).d
def enP (l : List Rc) : Nat → List Int
  | 0 => []
  | n + 1 => enP l n ++ enO l n
def enL (l : List Rc) : List Int := if vlR l then enP l l.length else []
def enE (l : List Rc) : Int := if vlR l then 0 else 1
def CEn : Ctr := .mk false fun _ xs => match xs with
  | [.lst zz es] => some (zz = [.int .u8 0, .nil] ∧ es = recs (decR es), .tup [.lst [.int .u8 0] (u8s (enL (decR es))), .int .i64 (enE (decR es))], [])
  | _ => none
def CAw : Ctr := .mk false fun _ xs => match xs with
  | [] => some (True, .bool true, [])
  | _ => none
theorem enO_len {l : List Rc} (h : ∀ r ∈ l, r.d.length ≤ 255) (i : Nat) : (enO l i).length ≤ 260 := by
  have := getD_le h i
  simp only [enO, hdR, List.length_append, List.length_cons, List.length_nil]; omega
theorem enP_len {l : List Rc} (h : ∀ r ∈ l, r.d.length ≤ 255) : ∀ i : Nat, (enP l i).length ≤ 260 * i
  | 0 => by simp [enP]
  | i + 1 => by
    have h1 := enP_len h i
    have h2 := enO_len h i
    simp only [enP, List.length_append]; omega
set_option maxHeartbeats 4000000 in
theorem walk22x {Phi : Nat → Option Ctr} (P34 : Phi 34 = some CCl) (l : List Rc) (hb : ∀ r ∈ l, r.d.length ≤ 1000) (hl : l.length ≤ 1000) : evC Phi (I22 l) rc22 ⟨initS [.lst [.int .u8 0, .nil] (recs l)], initM false []⟩ (kRetX rv22 false (fun _ : Unit => (True, .fr 0 32 [.int .u8 0, .nil] (recs l), []))) := by
  simp (config := {maxSteps := 2000000, contextual := true}) only [rc22, initM_f, rv22, evC_seq, evC_region, eo_mov, evG_no, Option.getD_some, ev_mov, av_c, gv_nil, bind1_some', un1_mov, goOp_some, put_q, evOps_nil, kEnd_at, hasG_no, hasG_nil, kEndB_f, kSeq_n, gv_int, evC_block, evC_loop, I22_0, L22aS, S22a, SL_ge, lkL_cons, upd_at, Nat.reduceEqDiff, ↓reduceIte, initS_at, List.getD_cons_zero, lkS_lst, lkS_nil_vw, lookM_cons, nlK_buf, lkS_int, lkL_nil, List.nil_append, List.cons_append, lkM_cons, lkB_buf, lkM_nil, applyL_nls, nlV_nil, Nat.reduceLeDiff, decide_true, List.length_cons, List.length_nil, Nat.zero_add, Nat.reduceAdd, Nat.reduceLT, Bool.and_self, nlP_t, applyL_nil, SL_ge0, leL_cons, killS_at, kill3_lst, leV1_lst, leV1_vw, kill3_int, leV1_int, leL_nil, and_true, true_and, leM_cons, updM_at, leB_buf, leM_nil, L22aR, SL_st, av_t, lookL_cons, gv_lst, eo_len, ev_len, len_lst, recs_len, eo_cmp, ev_cmp, cmp2_some, cmp_lss, toR_some', evC_cond, evC_skip, evC_draw, preK_some, needD_mov, preB_f, needD_iaddrS, needD_faddr, needD_load, needD_call, needD_build, needD_bslice, needD_appD, preB_t, Nat.reduceMul, preK_nil, evD_cons, kill3_vw, gv_vw, evDk_some, newOK_none, ev_iaddrS, bind2_some', iaddrS_lst, beq_self_eq_true, iasB_true, Int.toNat_natCast, ev_faddr, gv_ep, faddr_ep, Nat.add_zero, ev_load, load_ep, valOf_one, pairD_cons, pairOK_eq, newMen_none, List.contains_cons, Nat.reduceBEq, List.contains_nil, Bool.or_false, Bool.or_true, pairB_t, and_self, pairB_f, chkR_eq, pslots_ep, optN_some, disjN_nil, pslots_vw, List.map_nil, newI_none, pairD_nil, askL_nil, askL_cons, pslots_int, pslots_lst, evC_exit, kSeq_e, kLoop_e, kBlk_e, kBlkB_t, evC_ret, kRetX_r, retXG_eq, retX_eq, retL_cons, retV_t, retL_nil, consO_some, lkR_one, lk1_vw_fr, lkT_f, retX0_eq, resXO_some, resX_one, leX1_fr_vw, leFB_buf, pqR_one, pq1_fr_vw, pqK_some, pqK_nil, nodupN_cons, Bool.not_false, nodupN_nil, List.all_cons, List.all_nil, frs2_fr, idsOK_eq, List.map_cons, wfRes_one, wfX1_fr, lookM_nil, resXT_f, knowL_nil, ar_t, condK_bool, getE_rec, List.getElem?_cons_zero, ldV_some, List.getElem?_cons_succ, ev_call, P34, CCl, avs_cons, avs_nil, clO_some, call_pure, lends_cons, lend1_lst, lends_nil, consL_some', callN_some, decU_u8s, u8s_len, callP_some, c2_lst, flat2_lst, backOK_nil, clQ_t, ev_build, fillA_cons, faK_some, cells_int, faC_some, setC_cons, List.set_cons_zero, setC_nil, cells_lst, List.set_cons_succ, fillA_nil, blO_some, ev_bslice, List.replicate_succ, List.replicate_zero, fillS_cons, gv_agg, fsK_some, cells_agg, fsC_some, c0_int, c0_lst, fillS_nil, blS_some, ev_appD, appDR_vw, ysOf_lst, killM_at, killO_some, killB_buf, appDV_buf, appDK_some, recs_snoc, Rc.eta, newOK_some, deadL_dead, deadL_nil, liveB_buf, put_nd, evD_nil, kBlk_n, eo_arith, ev_arith, arith_add, kLoop_n, lkS_vw_vw, renK_f, killO_none, applyL_ren, renQ_buf, renP_t, renSl_at, ren3_lst, ren3_vw, ren3_int, knowD_cons, knowD_nil, knowL_cons, true_imp_iff, newMen_some, noMen_eq, noB_none, kill3_agg, kill0_int, kill0_lst, kill3_ep, pslots_agg]
  refine ⟨⟨0, by omega⟩, ⟨rfl, rfl⟩, ?_⟩
  rintro ⟨i, hi⟩ _
  dsimp only
  refine ⟨fun hc => ?_, fun hc => ?_⟩
  · have hc := of_decide_eq_true hc
    have h1 : (l.take i).length ≤ 1000 := by rw [List.length_take]; omega
    have h2 := hb _ (getD_mem l i (by omega))
    exact ⟨⟨by omega, by omega⟩, ⟨by omega, by omega⟩, by omega, by omega, by omega, ⟨i + 1, by omega⟩, ⟨AV.int_inj' (wr_succ i (by omega)), by rw [take_snoc l r0 i (by omega)]⟩, by dsimp only; omega⟩
  · have hc := of_decide_eq_false hc
    exact ⟨(), by rw [List.take_of_length_le (by omega)]⟩
structure K17a (l : List Rc) (x t : Int) (d : List Int) where
  i : Nat
  hi : i ≤ l.length
def S17a (l : List Rc) (x t : Int) (d : List Int) (p : K17a l x t d) : SL := ⟨[(0, .lst [.int .u8 0, .nil] (recs l)), (1, .int .i64 x), (5, .ptr 384 0), (8, .vw 3200 0 0 0), (19, .lst [.int .u8 0, .nil] (recs l)), (20, .int .i64 l.length), (21, .int .i64 p.i)], [(384, .cells [.int .u8 t, .lst [.int .u8 0] (u8s d)]), (3200, .buf 32 [.int .u8 0, .nil] (recs (l.take p.i)))]⟩
abbrev L17a (l : List Rc) (x t : Int) (d : List Int) : LI := ⟨K17a l x t d, S17a l x t d, fun p => l.length - p.i, fun p q => True⟩
theorem L17aS (l : List Rc) (x t : Int) (d : List Int) : (L17a l x t d).S = S17a l x t d := rfl
theorem L17aM (l : List Rc) (x t : Int) (d : List Int) (p : K17a l x t d) : (L17a l x t d).μ p = l.length - p.i := rfl
theorem L17aR (l : List Rc) (x t : Int) (d : List Int) (p q : K17a l x t d) : (L17a l x t d).R p q = (True) := rfl
def I17 (l : List Rc) (x t : Int) (d : List Int) : Nat → LI := fun n => L17a l x t d
theorem I17_0 (l : List Rc) (x t : Int) (d : List Int) : I17 l x t d 0 = L17a l x t d := rfl
structure K24a (l : List Rc) where
  i : Nat
  hi : i ≤ l.length
def S24a (l : List Rc) (p : K24a l) : SL := ⟨[(0, .lst [.int .u8 0, .nil] (recs l)), (4, .vw 3200 0 0 0), (11, .lst [.int .u8 0, .nil] (recs l)), (12, .int .i64 l.length), (13, .int .i64 p.i)], [(3200, .buf 5 [.int .u8 0] (u8s (enP l p.i)))]⟩
abbrev L24a (l : List Rc) : LI := ⟨K24a l, S24a l, fun p => l.length - p.i, fun p q => True⟩
theorem L24aS (l : List Rc) : (L24a l).S = S24a l := rfl
theorem L24aM (l : List Rc) (p : K24a l) : (L24a l).μ p = l.length - p.i := rfl
theorem L24aR (l : List Rc) (p q : K24a l) : (L24a l).R p q = (True) := rfl
def I24 (l : List Rc) : Nat → LI := fun n => L24a l
theorem I24_0 (l : List Rc) : I24 l 0 = L24a l := rfl
set_option maxHeartbeats 4000000 in
theorem walk17 {Phi : Nat → Option Ctr} (P26 : Phi 26 = some CVl) (P33 : Phi 33 = some CCl) (l : List Rc) (i t : Int) (d : List Int) (hb : ∀ r ∈ l, r.d.length ≤ 1000) (hl : l.length ≤ 1000) (hd : d.length ≤ 1000) : evC Phi (I17 l i t d) rc17 ⟨initS [.lst [.int .u8 0, .nil] (recs l), .int .i64 i, .agg [.int .u8 t, .lst [.int .u8 0] (u8s d)]], initM false []⟩ (kRet rv17 (.tup [.lst [.int .u8 0, .nil] (recs (rpL l i ⟨t, d⟩)), .int .i64 (rpE l i ⟨t, d⟩)]) false []) := by
  simp (config := {maxSteps := 2000000, contextual := true}) only [rc17, initM_f, rv17, evC_seq, evC_region, eo_box, evG_no, Option.getD_some, ev_box, av_t, initS_at, List.getD_cons_succ, List.getD_cons_zero, gv_agg, bind1_some', boxR_eq, cells_agg, List.length_cons, List.length_nil, Nat.zero_add, Nat.reduceAdd, ↓reduceIte, bxO_some, Nat.reduceMul, goOp_some, put_n, killB_cells, List.map_cons, kill0_int, kill0_lst, List.map_nil, eo_mov, ev_mov, av_c, gv_nil, un1_mov, put_q, gv_int, evOps_nil, kEnd_at, hasG_no, hasG_nil, kEndB_f, kSeq_n, upd_at, Nat.reduceEqDiff, killS_at, kill3_int, eo_cmp, ev_cmp, cmp2_some, cmp_lss, toR_some', gv_bool, evG_yes, pathG_bool, gG_some, guardR_q, guardL_nil, kill3_lst, gv_lst, eo_len, ev_len, gv_gd, List.contains_cons, List.contains_nil, Bool.or_false, List.all_cons, beq_self_eq_true, List.all_nil, Bool.and_self, gvB_true, len_lst, recs_len, cmp_gtr, eo_pick, ev_pick, List.nil_append, pick3_some, pickV_bool, Bool.cond_true_left, hasG_yes, kEndB_t, evC_cond, evC_ret, kSeq_r, kRet_r, retOK_eq, retL_cons, retV_t, retL_nil, consO_some, lkR_two, lkVs_cons, lk1_nil, lk1_int, lkVs_nil, lkT_f, applyL_nil, retOK_f, rtO_some, resV_two, leVs_cons, leV1_nil, leA_nil, leV1_int, leVs_nil, and_true, knowL_nil, askL_nil, evC_skip, ungdS_at, ungd_lst, evC_block, evC_loop, I17_0, L17aS, S17a, SL_ge, lkL_cons, lkS_lst, ungd_int, lkS_int, ungd_ptr, lkS_ptr, lkS_nil_vw, lookM_cons, nlK_buf, lkL_nil, List.cons_append, lkM_cons, updM_at, lkB_cells, lkC_cons, lkC0_int, lkC0_lst, lkC_nil, killM_at, killO_none, lkB_buf, lkM_nil, applyL_nls, nlV_nil, Nat.reduceLeDiff, decide_true, Nat.reduceLT, nlP_t, SL_ge0, leL_cons, leV1_lst, kill3_ptr, leV1_ptr, leV1_vw, leL_nil, true_and, leM_cons, killO_some, leB_cells, leAs_cons, leA_int, leA_lst, leAs_nil, and_self, leB_buf, leM_nil, L17aR, SL_st, lookL_cons, eo_iaddrS, ev_iaddrS, bind2_some', iaddrS_lst, iasB_true, Int.toNat_natCast, eo_load, ev_load, gv_ep, load_ep, valOf_agg, knowL_cons, askL_cons, evC_exit, kSeq_e, kLoop_e, kBlk_e, kBlkB_t, eo_faddr, ev_faddr, gv_ptr, faddr_ptr, load_ptr, ldB_cells, valOf_one, List.getElem?_cons_succ, List.getElem?_cons_zero, ldV_some, eo_call, P33, CCl, evCl_mk, ev_call, avs_cons, avs_nil, clO_some, call_pure, lends_cons, lend1_lst, lends_nil, consL_some', callN_some, decU_u8s, u8s_len, callP_some, c2_lst, flat2_lst, backOK_nil, clQ_t, eo_store, ar_t, vwsT_ptr, frzL_nil, goF_eq, Option.getD_none, ev_store, store_ptr, cells_lst, stB_cells, stC_true, setC_cons, List.set_cons_succ, List.set_cons_zero, setC_nil, put_s, liveB_cells, cmp_eql, gv_vw, valB_true, List.drop_zero, List.take_succ_cons, List.take_zero, eo_bsliceO, vwsG_cons, vws1_agg, vwsL_cons, vws0_int, vws0_lst, vwsL_nil, vwsG_nil, ev_bsliceO, List.replicate_succ, List.replicate_zero, fillS_cons, fsK_some, fsC_some, c0_int, c0_lst, fillS_nil, blO2_some, killB_buf, eo_append, ev_append, kill3_vw, appR_vw, ysOf_vw, ysV_buf, appV_buf, appK_some, recs_snoc, P26, CVl, lend1_vw, lendB_buf, decR_recs, c2_bool, flat2_bool, backOK_cons, eo_not, ev_not, un1_not, lk1_vw_lst, applyL_frz, frzQ_buf, frzP_t, frzSl_at, frz3_vw, frz3_int, condK_bool, iaddrS_vw, iasV_buf, iasW_t, vwsT_bp, gv_bp, store_bp, stP_buf, stQ_t, setE_rec, recs_set, liveB_buf, getE_rec, eo_alloc, ev_alloc, kill0_nil, kill3_agg, evC_draw, preK_some, needD_mov, preB_f, needD_faddr, needD_load, needD_call, needD_build, needD_bslice, needD_appD, preB_t, preK_nil, evD_cons, evDk_some, newOK_none, Nat.add_zero, ev_build, fillA_cons, faK_some, cells_int, faC_some, fillA_nil, blO_some, ev_bslice, blS_some, ev_appD, appDR_vw, ysOf_lst, Nat.reduceBEq, appDV_buf, appDK_some, Rc.eta, newOK_some, deadL_dead, deadL_nil, put_nd, evD_nil, kBlk_n, eo_arith, ev_arith, arith_add, kLoop_n, lkS_vw_vw, renK_f, applyL_ren, renQ_buf, Bool.not_false, renP_t, renSl_at, ren3_lst, ren3_int, ren3_ptr, ren3_vw, renM_at, renO_cells, ren0_int, ren0_lst, knowD_cons, knowD_nil, pairD_cons, pairOK_eq, newMen_none, Bool.or_true, pairB_t, pairD_nil, newMen_some, noMen_eq, noB_none, pairB_f, chkR_eq, pslots_lst, optN_some, disjN_nil, pslots_vw, newI_none, pslots_agg, pslots_int, pslots_ptr, true_imp_iff, ungd_bool]
  refine ⟨fun h => ?_, fun h _ => ⟨⟨0, by omega⟩, ⟨rfl, rfl⟩, ?_⟩⟩
  · simp only [Bool.or_eq_true, decide_eq_true_eq] at h
    obtain ⟨e1, e2⟩ := rp_rng (r := ⟨t, d⟩) h
    rw [e1, e2]; exact ⟨rfl, rfl⟩
  have h : ¬ (i < 0 ∨ (l.length : Int) < i) := by
    simp only [Bool.or_eq_false_iff, decide_eq_false_iff_not] at h; omega
  rintro ⟨j, hj⟩
  dsimp only
  refine ⟨fun hc => ?_, fun hc => ?_⟩
  · have hc := of_decide_eq_true hc
    have h1 : (l.take j).length ≤ 1000 := by rw [List.length_take]; omega
    have h2 := hb _ (getD_mem l j (by omega))
    exact ⟨⟨by omega, by omega⟩, by omega, by omega, by omega, ⟨j + 1, by omega⟩, ⟨AV.int_inj' (wr_succ j (by omega)), by rw [take_snoc l r0 j (by omega)]⟩, by dsimp only; omega⟩
  have hc := of_decide_eq_false hc
  rw [List.take_of_length_le (by omega)]
  refine ⟨by omega, fun e => ?_, fun e => ?_⟩
  · have e := of_decide_eq_true e
    have hx : rpX l i ⟨t, d⟩ = l ++ [⟨t, d⟩] := by simp only [rpX]; rw [if_pos e]
    refine ⟨by omega, by omega, fun hv => ?_, fun hv => ?_⟩
    · obtain ⟨e1, e2⟩ := rp_bad h (by rw [hx]; simpa using hv)
      rw [e1, e2]; exact ⟨rfl, rfl⟩
    · obtain ⟨e1, e2⟩ := rp_ok h (by rw [hx]; simpa using hv)
      rw [e1, e2, hx]; exact ⟨rfl, rfl⟩
  · have e := of_decide_eq_false e
    have hx : rpX l i ⟨t, d⟩ = l.set i.toNat ⟨t, d⟩ := by simp only [rpX]; rw [if_neg e]
    refine ⟨⟨by omega, by omega⟩, fun _ => ⟨by omega, fun hv => ?_, fun hv => ?_⟩⟩
    · obtain ⟨e1, e2⟩ := rp_bad h (by rw [hx]; simpa using hv)
      rw [e1, e2]; exact ⟨rfl, rfl⟩
    · obtain ⟨e1, e2⟩ := rp_ok h (by rw [hx]; simpa using hv)
      rw [e1, e2, hx]; exact ⟨rfl, rfl⟩
set_option maxHeartbeats 4000000 in
theorem walk18 {Phi : Nat → Option Ctr} (P22 : Phi 22 = some CCy) (P27 : Phi 27 = some CVl) (P34 : Phi 34 = some CCl) (l : List Rc) (i t : Int) (d : List Int) (hb : ∀ r ∈ l, r.d.length ≤ 1000) (hl : l.length ≤ 1000) (hd : d.length ≤ 1000) : evC Phi (noI) rc18 ⟨initS [.lst [.int .u8 0, .nil] (recs l), .int .i64 i, .agg [.int .u8 t, .lst [.int .u8 0] (u8s d)]], initM false []⟩ (kRet rv18 (.tup [.lst [.int .u8 0, .nil] (recs (rpL l i ⟨t, d⟩)), .int .i64 (rpE l i ⟨t, d⟩)]) false []) := by
  simp (config := {maxSteps := 2000000, contextual := true}) only [rc18, initM_f, rv18, evC_seq, evC_region, eo_box, evG_no, Option.getD_some, ev_box, av_t, initS_at, List.getD_cons_succ, List.getD_cons_zero, gv_agg, bind1_some', boxR_eq, cells_agg, List.length_cons, List.length_nil, Nat.zero_add, Nat.reduceAdd, ↓reduceIte, bxO_some, Nat.reduceMul, goOp_some, put_n, killB_cells, List.map_cons, kill0_int, kill0_lst, List.map_nil, eo_mov, ev_mov, av_c, gv_nil, un1_mov, put_q, gv_int, evOps_nil, kEnd_at, hasG_no, hasG_nil, kEndB_f, kSeq_n, upd_at, Nat.reduceEqDiff, killS_at, kill3_int, eo_cmp, ev_cmp, cmp2_some, cmp_lss, toR_some', gv_bool, evG_yes, pathG_bool, gG_some, guardR_q, guardL_nil, kill3_lst, gv_lst, eo_len, ev_len, gv_gd, List.contains_cons, List.contains_nil, Bool.or_false, List.all_cons, beq_self_eq_true, List.all_nil, Bool.and_self, gvB_true, len_lst, recs_len, cmp_gtr, eo_pick, ev_pick, List.nil_append, pick3_some, pickV_bool, Bool.cond_true_left, hasG_yes, kEndB_t, evC_cond, evC_ret, kSeq_r, kRet_r, retOK_eq, retL_cons, retV_t, retL_nil, consO_some, lkR_two, lkVs_cons, lk1_nil, lk1_int, lkVs_nil, lkT_f, applyL_nil, retOK_f, rtO_some, resV_two, leVs_cons, leV1_nil, leA_nil, leV1_int, leVs_nil, and_true, knowL_nil, askL_nil, evC_skip, ungdS_at, ungd_lst, eo_call, P22, CCy, evCl_ext, avs_cons, avs_nil, evXV_some, evX_f, lends_cons, lend1_lst, lends_nil, consL_some', evXA_some, decR_recs, and_self, true_and, evXN_some, evXP_eq, wfX2_fr, Nat.reduceLT, decide_true, frs2_fr, idsOK_eq, nodupN_cons, Bool.not_false, nodupN_nil, flatX2_fr, flatC_int, flatC_nil, Bool.and_true, Bool.true_and, flatL_buf, flatL_nil, evOpsk_at, backX_nil, putX_eq, unfr2_fr, Nat.add_zero, addF_cons, addF_nil, putY_eq, gv_vw, evC_draw, preK_some, needD_faddr, preB_f, needD_load, needD_call, needD_build, needD_alloc, preB_t, preK_none, preK_nil, evD_cons, ev_faddr, ungd_ptr, kill3_ptr, gv_ptr, faddr_ptr, evDk_some, newOK_none, ev_load, load_ptr, updM_at, killM_at, killO_some, ldB_cells, valOf_one, List.getElem?_cons_zero, ldV_some, List.getElem?_cons_succ, ev_call, P34, CCl, clO_some, call_pure, callN_some, decU_u8s, u8s_len, callP_some, c2_lst, flat2_lst, backOK_nil, clQ_t, ev_build, fillA_cons, faK_some, cells_int, faC_some, Nat.reduceLeDiff, setC_cons, List.set_cons_zero, setC_nil, cells_lst, List.set_cons_succ, fillA_nil, blO_some, ev_alloc, newOK_some, deadL_nil, kill0_nil, liveB_cells, Option.getD_none, ev_store, kill3_agg, bind2_some', store_ptr, stB_cells, stC_true, put_s, evD_nil, ungd_int, cmp_eql, kill3_vw, eo_load, valOf_agg, valB_true, List.drop_zero, List.take_succ_cons, List.take_zero, eo_bsliceO, vwsG_cons, ar_t, vws1_agg, vwsL_cons, vws0_int, vws0_lst, vwsL_nil, vwsG_nil, frzL_nil, goF_eq, ev_bsliceO, List.replicate_succ, List.replicate_zero, fillS_cons, fsK_some, fsC_some, c0_int, c0_lst, fillS_nil, blO2_some, killB_buf, eo_append, ev_append, appR_vw, ysOf_vw, ysV_buf, appV_buf, appK_some, recs_snoc, List.cons_append, P27, CVl, evCl_mk, lend1_vw, lendB_buf, c2_bool, flat2_bool, backOK_cons, eo_not, ev_not, un1_not, lk1_vw_lst, applyL_frz, frzQ_buf, frzP_t, frzSl_at, frz3_vw, frz3_int, leV1_lst, condK_bool, askL_cons, eo_iaddrS, ev_iaddrS, iaddrS_vw, iasV_buf, iasW_t, eo_store, vwsT_bp, gv_bp, store_bp, stP_buf, stQ_t, setE_rec, recs_set, liveB_buf, knowL_cons, true_imp_iff, knowD_cons, knowD_nil, pairD_cons, pairOK_eq, newMen_none, Nat.reduceBEq, Bool.or_true, pairB_t, pairD_nil, newMen_some, noMen_eq, noB_none, pairB_f, chkR_eq, pslots_ptr, optN_some, disjN_nil, pslots_agg, newI_none, newI_some, disjN_cons, pslots_lst, pslots_int, ungd_bool]
  refine ⟨fun h => ?_, fun h => ⟨⟨hb, hl⟩, fun _ => ⟨by omega, fun _ => ?_⟩⟩⟩
  · simp only [Bool.or_eq_true, decide_eq_true_eq] at h
    obtain ⟨e1, e2⟩ := rp_rng (r := ⟨t, d⟩) h
    rw [e1, e2]; exact ⟨rfl, rfl⟩
  have h : ¬ (i < 0 ∨ (l.length : Int) < i) := by
    simp only [Bool.or_eq_false_iff, decide_eq_false_iff_not] at h; omega
  refine ⟨fun e => ?_, fun e => ?_⟩
  · have e := of_decide_eq_true e
    have hx : rpX l i ⟨t, d⟩ = l ++ [⟨t, d⟩] := by simp only [rpX]; rw [if_pos e]
    refine ⟨by omega, by omega, fun hv => ?_, fun hv => ?_⟩
    · obtain ⟨e1, e2⟩ := rp_bad h (by rw [hx]; simpa using hv)
      rw [e1, e2]; exact ⟨rfl, rfl⟩
    · obtain ⟨e1, e2⟩ := rp_ok h (by rw [hx]; simpa using hv)
      rw [e1, e2, hx]; exact ⟨rfl, rfl⟩
  · have e := of_decide_eq_false e
    have hx : rpX l i ⟨t, d⟩ = l.set i.toNat ⟨t, d⟩ := by simp only [rpX]; rw [if_neg e]
    refine ⟨⟨by omega, by omega⟩, ⟨by omega, fun hv => ?_, fun hv => ?_⟩⟩
    · obtain ⟨e1, e2⟩ := rp_bad h (by rw [hx]; simpa using hv)
      rw [e1, e2]; exact ⟨rfl, rfl⟩
    · obtain ⟨e1, e2⟩ := rp_ok h (by rw [hx]; simpa using hv)
      rw [e1, e2, hx]; exact ⟨rfl, rfl⟩
set_option maxHeartbeats 4000000 in
theorem walk24 {Phi : Nat → Option Ctr} (P26 : Phi 26 = some CVl) (P35 : Phi 35 = some CSu) (P36 : Phi 36 = some CSe) (l : List Rc) : evC Phi (I24 l) rc24 ⟨initS [.lst [.int .u8 0, .nil] (recs l)], initM false []⟩ (kRet rv24 (.tup [.lst [.int .u8 0] (u8s (enL l)), .int .i64 (enE l)]) false []) := by
  simp (config := {maxSteps := 2000000, contextual := true}) only [rc24, initM_f, rv24, evC_seq, evC_region, eo_mov, evG_no, Option.getD_some, ev_mov, av_c, gv_nil, bind1_some', un1_mov, goOp_some, put_q, gv_int, evOps_nil, kEnd_at, hasG_no, hasG_nil, kEndB_f, kSeq_n, av_t, upd_at, Nat.reduceEqDiff, ↓reduceIte, initS_at, List.getD_cons_zero, gv_lst, eo_call, P26, CVl, evCl_mk, ev_call, avs_cons, avs_nil, consO_some, clO_some, call_pure, lends_cons, lend1_lst, lends_nil, consL_some', List.nil_append, callN_some, decR_recs, and_self, callP_some, c2_bool, flat2_bool, backOK_nil, Bool.and_self, clQ_t, eo_not, ev_not, gv_bool, un1_not, evC_cond, evC_ret, kSeq_r, kRet_r, retOK_eq, retL_cons, retV_t, retL_nil, lkR_two, lkVs_cons, lk1_nil, lk1_int, lkVs_nil, lkT_f, applyL_nil, retOK_f, rtO_some, resV_two, leVs_cons, leV1_nil, leA_nil, leV1_int, leVs_nil, and_true, knowL_nil, askL_nil, evC_skip, eo_len, ev_len, len_lst, recs_len, evC_block, evC_loop, I24_0, L24aS, S24a, SL_ge, lkL_cons, lkS_lst, lkS_nil_vw, lookM_cons, nlK_buf, lkS_int, lkL_nil, List.cons_append, lkM_cons, lkB_buf, lkM_nil, applyL_nls, nlV_nil, Nat.reduceLeDiff, decide_true, List.length_cons, List.length_nil, Nat.zero_add, Nat.reduceLT, nlP_t, SL_ge0, leL_cons, killS_at, kill3_lst, leV1_lst, leV1_vw, kill3_int, leL_nil, true_and, leM_cons, updM_at, leB_buf, leM_nil, L24aR, SL_st, eo_cmp, ev_cmp, lookL_cons, cmp2_some, cmp_lss, toR_some', eo_iaddrS, ev_iaddrS, bind2_some', iaddrS_lst, Nat.reduceAdd, beq_self_eq_true, iasB_true, Int.toNat_natCast, eo_load, ev_load, gv_ep, load_ep, valOf_agg, knowL_cons, askL_cons, evC_exit, kSeq_e, kLoop_e, kBlk_e, kBlkB_t, gv_vw, lk1_vw_lst, applyL_frz, frzQ_buf, frzP_t, frzSl_at, frz3_vw, frz3_int, ar_t, condK_bool, getE_rec, valB_true, List.drop_zero, List.take_succ_cons, List.take_zero, ldV_some, eo_alloc, ev_alloc, Nat.reduceMul, put_n, killB_cells, List.map_cons, kill0_int, kill0_nil, List.map_nil, eo_store, kill3_agg, kill0_lst, vwsT_ptr, frzL_nil, goF_eq, Option.getD_none, ev_store, gv_ptr, gv_agg, store_ptr, cells_agg, stB_cells, stC_true, setC_cons, List.set_cons_zero, List.set_cons_succ, setC_nil, put_s, liveB_cells, evC_draw, preK_some, needD_faddr, preB_f, needD_load, needD_len, needD_conv, needD_call, needD_bsliceO, preB_t, needD_mov, preK_nil, evD_cons, ev_faddr, kill3_ptr, faddr_ptr, Nat.add_zero, evDk_some, newOK_none, load_ptr, killM_at, killO_some, ldB_cells, valOf_one, List.getElem?_cons_zero, List.getElem?_cons_succ, u8s_len, ev_conv, un1_conv, P35, CSu, decU_u8s, c2_int, flat2_int, ev_bsliceO, List.replicate_succ, List.replicate_zero, fillS_cons, fsK_some, cells_int, fsC_some, List.all_cons, c0_int, List.all_nil, fillS_nil, blO2_some, newOK_some, deadL_nil, killB_buf, liveB_buf, evD_nil, eo_arith, ev_arith, arith_sub, cmp_eql, iaddrS_vw, iasV_buf, iasW_t, Int.reduceLE, Int.reduceToNat, gv_bp, load_bp, ldP_buf, getE_lit1, ldQ_t, arith_or, vwsT_bp, vws1_int, store_bp, stP_buf, stQ_t, evC_ghost, vws0_vw, frzL_cons, needD_appD, kill3_vw, P36, CSe, decU_cons, decU_nil, c2_lst, flat2_lst, ev_appD, appDR_vw, ysOf_lst, Nat.reduceBEq, frzM_at, frzO_some, frzB_buf, appDV_buf, appDK_some, Nat.mul_one, u8s_join, deadL_dead, put_nd, frz3_ptr, frzB_cells, frz0_int, frz0_lst, kBlk_n, arith_add, kLoop_n, frz3_lst, lkS_vw_vw, renK_f, killO_none, applyL_ren, renQ_buf, Bool.not_false, renP_t, renSl_at, ren3_lst, ren3_vw, ren3_int, knowD_cons, knowD_nil, pairD_cons, pairOK_eq, newMen_none, List.contains_cons, List.contains_nil, Bool.or_false, Bool.or_true, pairB_t, pairD_nil, newMen_some, noMen_eq, noB_none, killB_dead, noB_some, pairB_f, chkR_eq, pslots_lst, optN_some, disjN_nil, pslots_vw, newI_some, newI_none, disjN_cons, pslots_ptr, true_imp_iff, pslots_int]
  refine ⟨fun h => ?_, fun h _ => ⟨⟨0, by omega⟩, ⟨rfl, rfl⟩, ?_⟩⟩
  · have h : vlR l = false := by simpa using h
    rw [enL, enE, h]; exact ⟨rfl, rfl⟩
  have hv : vlR l = true := by simpa using h
  obtain ⟨g1, g2, g3⟩ := vlR_iff hv
  have hb : bitsI BinOp.or IntKind.u8 2 128 = 130 := by decide +kernel
  rintro ⟨i, hi⟩
  dsimp only
  refine ⟨fun hc => ?_, fun hc => ?_⟩
  · have hc := of_decide_eq_true hc
    have hp := enP_len g2 i
    have h2 := g2 _ (getD_mem l i (by omega))
    rw [wr_in ((l.length : Int) - 1) (by omega) (by omega), hb]
    refine ⟨⟨by omega, by omega⟩, by omega, fun _ => ⟨fun he => ?_, fun he => ?_⟩⟩
    · have he := of_decide_eq_true he
      refine ⟨by decide, by decide, rfl, by omega, by omega, ?_, ?_, ⟨i + 1, by omega⟩, ⟨AV.int_inj' (wr_succ i (by omega)), ?_⟩, by dsimp only; omega⟩
      · simp only [List.length_append, List.length_cons, List.length_nil]; omega
      · simp only [List.length_append, List.length_cons, List.length_nil]; omega
      · show u8s _ = u8s (enP l i ++ enO l i)
        rw [enO, hdR, if_pos (show i + 1 = l.length by omega), List.append_assoc]; rfl
    · have he := of_decide_eq_false he
      refine ⟨rfl, by omega, by omega, ?_, ?_, ⟨i + 1, by omega⟩, ⟨AV.int_inj' (wr_succ i (by omega)), ?_⟩, by dsimp only; omega⟩
      · simp only [List.length_append, List.length_cons, List.length_nil]; omega
      · simp only [List.length_append, List.length_cons, List.length_nil]; omega
      · show u8s _ = u8s (enP l i ++ enO l i)
        rw [enO, hdR, if_neg (show ¬ i + 1 = l.length by omega), List.append_assoc]; rfl
  · have hc := of_decide_eq_false hc
    rw [show i = l.length by omega, enL, enE, hv]; exact ⟨rfl, rfl⟩
set_option maxHeartbeats 4000000 in
theorem walk10 {Phi : Nat → Option Ctr} (P23 : Phi 23 = some CSb) (P24 : Phi 24 = some CEn)  : evC Phi (noI) rc10 ⟨initS [], initM false []⟩ (kRet rv10 (.bool true) false []) := by
  simp (config := {maxSteps := 2000000}) only [rc10, initM_f, rv10, evC_seq, evC_region, eo_mov, evG_no, Option.getD_some, ev_mov, av_c, gv_bool, bind1_some', un1_mov, goOp_some, put_q, evOps_nil, kEnd_at, hasG_no, hasG_nil, kEndB_f, kSeq_n, eo_bslice, vwsG_cons, ar_c, vws1_int, vwsG_nil, List.nil_append, frzL_nil, goF_eq, ev_bslice, List.length_cons, List.length_nil, Nat.zero_add, List.replicate_succ, List.replicate_zero, fillS_cons, gv_int, fsK_some, cells_int, fsC_some, Nat.reduceAdd, Nat.reduceLT, List.all_cons, c0_int, List.all_nil, Bool.and_self, and_self, ↓reduceIte, List.set_cons_zero, List.set_cons_succ, fillS_nil, blS_some, eo_build, ev_build, fillA_cons, faK_some, faC_some, Nat.reduceLeDiff, setC_cons, setC_nil, av_t, upd_at, gv_lst, cells_lst, fillA_nil, blO_some, ar_t, vws1_agg, vwsL_cons, vws0_int, vws0_lst, vwsL_nil, gv_agg, cells_agg, c0_lst, eo_call, P24, CEn, evCl_mk, ev_call, avs_cons, avs_nil, consO_some, clO_some, call_pure, lends_cons, lend1_lst, lends_nil, consL_some', callN_some, true_and, callP_some, c2_tup, c1_lst, c1_int, flat2_tup, flat1_lst, flat1_int, Bool.and_true, backOK_nil, clQ_t, gv_tup, eo_extract, ev_extract, un1_extract, List.getElem?_cons_zero, toR_some', Nat.reduceEqDiff, List.getElem?_cons_succ, evC_split, evOpsS_cons, evS1_none, pickOf, evS0k_none, evOpsSk_at, eo_cmp, ev_cmp, cmp2_some, cmp_eql, evS1_some, evSG_bool, P23, CSb, decU_u8s, decU_cons, decU_nil, c2_bool, flat2_bool, evS0k_some, pickS_bool, evOpsS_nil, kN_at, evC_ret, kRet_r, retOK_eq, retL_cons, retV_t, retL_nil, lkR_one, lk1_bool, lkT_f, applyL_nil, retOK_f, rtO_some, resV_one, leV1_bool, and_true, knowL_nil, askL_nil, askL_cons, Bool.not_true, Bool.false_eq_true]
  try simp only [iteP, iteF]
  exact ⟨rfl, fun _ => ⟨rfl, AV.bool_inj' (by decide +kernel)⟩, fun h => absurd h (by decide +kernel)⟩
end Go.Proofs.Ytklbnccpeeehkaa
