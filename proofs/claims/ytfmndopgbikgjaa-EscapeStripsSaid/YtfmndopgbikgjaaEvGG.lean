/- A part of the proof: symbolic evaluation of the program's functions, proved sound against the model; no condition. -/
import Derived.Test.YtfmndopgbikgjaaEvGE
namespace Go.Proofs.Ytfmndopgbikgjaa
open Go Go.RowKit Go.Ev
set_option linter.unusedSimpArgs false
set_option linter.unusedVariables false
set_option maxRecDepth 20000
structure K4a (L X : List Int) where
  i : Nat
  hi : i ≤ 2
def S4a (L X : List Int) (p : K4a L X) : SL := ⟨[(26, .lst [.nil] [[.lst [.int .u8 0] (u8s X)], [.lst [.int .u8 0] (u8s (shp L))]]), (27, .int .i64 2), (28, .int .i64 p.i)], []⟩
abbrev L4a (L X : List Int) : LI := ⟨K4a L X, S4a L X, fun p => 2 - p.i, fun p q => True⟩
theorem L4aS (L X : List Int) : (L4a L X).S = S4a L X := rfl
theorem L4aM (L X : List Int) (p : K4a L X) : (L4a L X).μ p = 2 - p.i := rfl
theorem L4aR (L X : List Int) (p q : K4a L X) : (L4a L X).R p q = (True) := rfl
structure K4b (L X : List Int) where
  i : Nat
  k : Nat
  b : List Int
  hb : Okb b ∧ b.length ≤ 500
  hk : (i = 0 ∧ b = X) ∨ (i = 1 ∧ b = shp L)
  h2 : k ≤ b.length
def S4b (L X : List Int) (p : K4b L X) : SL := ⟨[(26, .lst [.nil] [[.lst [.int .u8 0] (u8s X)], [.lst [.int .u8 0] (u8s (shp L))]]), (27, .int .i64 2), (28, .int .i64 p.i), (6, .lst [.int .u8 0] (u8s p.b)), (7, .lst [.int .u8 0] (u8s (strip p.b))), (8, .bool ((p.b.take p.k).contains 27)), (34, .lst [.int .u8 0] (u8s p.b)), (35, .int .i64 p.b.length), (36, .int .i64 p.k)], []⟩
abbrev L4b (L X : List Int) : LI := ⟨K4b L X, S4b L X, fun p => p.b.length - p.k, fun p q => q.i = p.i⟩
theorem L4bS (L X : List Int) : (L4b L X).S = S4b L X := rfl
theorem L4bM (L X : List Int) (p : K4b L X) : (L4b L X).μ p = p.b.length - p.k := rfl
theorem L4bR (L X : List Int) (p q : K4b L X) : (L4b L X).R p q = (q.i = p.i) := rfl
structure K4c (L X : List Int) where
  i : Nat
  k : Nat
  b : List Int
  hb : Okb b ∧ b.length ≤ 500
  hk : (i = 0 ∧ b = X) ∨ (i = 1 ∧ b = shp L)
  h2 : k ≤ (strip b).length
def S4c (L X : List Int) (p : K4c L X) : SL := ⟨[(26, .lst [.nil] [[.lst [.int .u8 0] (u8s X)], [.lst [.int .u8 0] (u8s (shp L))]]), (27, .int .i64 2), (28, .int .i64 p.i), (6, .lst [.int .u8 0] (u8s p.b)), (7, .lst [.int .u8 0] (u8s (strip p.b))), (8, .bool (p.b.contains 27)), (46, .lst [.int .u8 0] (u8s (strip p.b))), (47, .int .i64 (strip p.b).length), (48, .int .i64 p.k)], []⟩
abbrev L4c (L X : List Int) : LI := ⟨K4c L X, S4c L X, fun p => (strip p.b).length - p.k, fun p q => q.i = p.i⟩
theorem L4cS (L X : List Int) : (L4c L X).S = S4c L X := rfl
theorem L4cM (L X : List Int) (p : K4c L X) : (L4c L X).μ p = (strip p.b).length - p.k := rfl
theorem L4cR (L X : List Int) (p q : K4c L X) : (L4c L X).R p q = (q.i = p.i) := rfl
def I4 (L X : List Int) : Nat → LI := fun n => if n = 0 then L4a L X else if n = 1 then L4b L X else L4c L X
theorem I4_0 (L X : List Int) : I4 L X 0 = L4a L X := rfl
theorem I4_1 (L X : List Int) : I4 L X 1 = L4b L X := rfl
theorem I4_2 (L X : List Int) : I4 L X 2 = L4c L X := rfl
set_option maxHeartbeats 4000000 in
theorem walk4 {Phi : Nat → Option Ctr} (P9 : Phi 9 = some CAw) (P10 : Phi 10 = some CSh) (P14 : Phi 14 = some CSp) (L X : List Int) (hL : Okb L) (hX : Okb X) : evC Phi (I4 L X) rc4 ⟨initS [.lst [.int .u8 0] (u8s L), .lst [.int .u8 0] (u8s X)], initM false []⟩ (kRet rv4 (.bool true) false []) := by
  simp (config := {maxSteps := 2000000}) only [rc4, initM_f, rv4, evC_seq, evC_region, eo_mov, evG_no, Option.getD_some, ev_mov, av_c, gv_bool, bind1_some', un1_mov, goOp_some, put_q, evOps_nil, kEnd_at, hasG_no, hasG_nil, kEndB_f, kSeq_n, eo_call, P9, CAw, evCl_mk, ev_call, avs_nil, clO_some, call_pure, lends_nil, callN_some, callP_some, List.nil_append, c2_bool, flat2_bool, backOK_nil, Bool.and_self, clQ_t, eo_not, ev_not, av_t, upd_at, Nat.reduceEqDiff, initS_at, List.getD_cons_succ, if_false, if_true, un1_not, Bool.not_true, evC_cond, evC_ret, kSeq_r, kRet_r, retOK_eq, retL_cons, retV_t, retL_nil, consO_some, lkR_one, lk1_bool, lkT_f, applyL_nil, retOK_f, rtO_some, resV_one, leV1_bool, and_true, knowL_nil, askL_nil, evC_skip, List.getD_cons_zero, gv_lst, eo_len, ev_len, len_lst, u8s_len, eo_cmp, ev_cmp, gv_int, cmp2_some, cmp_gtr, toR_some', evG_yes, pathG_bool, gG_some, guardR_q, guardL_nil, gv_gd, List.contains_cons, List.contains_nil, Bool.or_false, List.all_cons, beq_self_eq_true, List.all_nil, gvB_true, eo_pick, ev_pick, pick3_some, pickV_bool, Bool.cond_true_left, hasG_yes, kEndB_t, ungdS_at, ungd_bool, and_self, ungd_lst, P10, CSh, avs_cons, lends_cons, lend1_lst, consL_some', decU_u8s, true_and, c2_lst, flat2_lst, eo_bsliceO, vwsG_cons, ar_t, vws1_lst, vwsG_nil, frzL_nil, goF_eq, ev_bsliceO, List.length_cons, List.length_nil, Nat.zero_add, List.replicate_succ, List.replicate_zero, fillS_cons, fsK_some, cells_lst, fsC_some, Nat.reduceAdd, Nat.reduceLT, c0_lst, List.set_cons_zero, List.set_cons_succ, fillS_nil, blO2_some, Nat.reduceMul, put_n, killB_buf, killS_at, gv_vw, len_vw, updM_at, killM_at, killO_none, lenV_buf, Nat.reduceLeDiff, evC_block, evC_loop, I4_0, L4aS, S4a, SL_ge, lkL_cons, lkS_vw_lst, lkS_int, lkL_nil, List.cons_append, lkM_nil, applyL_frz, frzQ_buf, decide_true, frzP_t, SL_ge0, leL_cons, frzSl_at, frz3_vw, leV1_lst, frz3_int, leV1_int, leL_nil, leM_nil, L4aR, SL_st, lookL_cons, lookL_nil, cmp_lss, eo_iaddrS, ev_iaddrS, bind2_some', iaddrS_lst, iasB_true, Int.toNat_natCast, eo_load, ev_load, gv_ep, load_ep, valOf_one, knowL_cons, true_imp_iff, askL_cons, evC_exit, kSeq_e, kLoop_e, kBlk_e, kBlkB_t, condK_bool, implies_true, Bool.false_eq_true, false_imp_iff]
  intro _ h
  simp only [Bool.or_eq_false_iff, decide_eq_false_iff_not] at h
  refine ⟨⟨hL, by omega⟩, ⟨0, by omega⟩, ⟨rfl, rfl⟩, ?_⟩
  rintro ⟨i, hi⟩ hlt
  have hlt := of_decide_eq_true hlt
  dsimp only at hlt ⊢
  refine ⟨⟨by omega, by omega⟩, ?_⟩
  have hi2 : i = 0 ∨ i = 1 := by omega
  rcases hi2 with rfl | rfl
  · simp (config := {maxSteps := 2000000}) only [getE_lit0, List.getElem?_cons_zero, ldV_some, goOp_some, put_q, eo_mov, evG_no, Option.getD_some, ev_mov, av_t, upd_at, Nat.reduceEqDiff, lookL_cons, lookL_nil, if_false, if_true, gv_lst, bind1_some', un1_mov, evOps_nil, kEnd_at, hasG_no, hasG_nil, kEndB_f, kSeq_n, evC_seq, evC_region, eo_call, P14, CSp, evCl_mk, ev_call, avs_cons, avs_nil, consO_some, clO_some, call_pure, lends_cons, lend1_lst, lends_nil, consL_some', List.nil_append, callN_some, decU_u8s, and_self, u8s_len, true_and, callP_some, c2_lst, flat2_lst, backOK_nil, Bool.and_self, clQ_t, av_c, gv_bool, eo_len, ev_len, len_lst, gv_int, evC_block, evC_loop, I4_1, L4bS, S4b, SL_ge, lkL_cons, lkS_lst, lkS_int, lkS_bool, lkL_nil, lkM_nil, applyL_nil, SL_ge0, leL_cons, leV1_lst, leV1_int, leV1_bool, leL_nil, and_true, leM_nil, L4bR, SL_st, eo_cmp, ev_cmp, cmp2_some, cmp_lss, toR_some', evC_cond, evC_skip, eo_iaddrS, ev_iaddrS, bind2_some', iaddrS_lst, List.length_cons, List.length_nil, Nat.zero_add, beq_self_eq_true, iasB_true, Int.toNat_natCast, eo_load, ev_load, gv_ep, load_ep, getE_u8, valOf_one, evG_yes, pathG_bool, gG_some, guardR_q, guardL_nil, gv_gd, List.contains_cons, List.contains_nil, Bool.or_false, List.all_cons, List.all_nil, gvB_true, cmp_eql, eo_pick, ev_pick, pick3_some, pickV_bool, Bool.cond_true_left, hasG_yes, kEndB_t, kBlk_n, eo_arith, ev_arith, ungdS_at, ungd_int, arith_add, ungd_junk, kLoop_n, ungd_lst, ungd_bool, knowL_nil, askL_nil, knowL_cons, askL_cons, evC_exit, kSeq_e, kLoop_e, kBlk_e, kBlkB_t, I4_2, L4cS, S4c, L4cR, evC_ret, kBlk_r, kSeq_r, kLoop_r, kRet_r, retOK_eq, retL_cons, retV_t, retL_nil, lkR_one, lk1_bool, lkT_f, retOK_f, rtO_some, resV_one, ar_t, condK_bool, evC_draw, preK_some, needD_mov, preB_f, needD_call, needD_b2s, needD_cmp, needD_not, needD_pick, needD_len, preK_nil, evD_cons, evDk_some, newOK_none, Nat.reduceAdd, ev_b2s, b2s_lst, ByteE_u8s, bytesOf_u8s, gv_str, cmp_neqS, ev_not, un1_not, pathG_gd, List.cons_append, Bool.true_or, Bool.or_true, guardL_cons, pathP_cons, boolOf_bool, boolOf_gd, pathP_nil, implies_true, Bool.cond_false_right, cmp_gtr, evD_nil, S4a, knowD_cons, knowD_nil, pairD_cons, pairOK_eq, newMen_none, Nat.reduceBEq, pairB_t, pairD_nil, pairB_f, chkR_eq, pslots_gd, List.map_cons, List.map_nil, optN_some, disjN_cons, Bool.not_false, disjN_nil, newI_none, pslots_str, pslots_lst]
    have hb := hX
    refine ⟨by omega, fun _ => ⟨⟨0, 0, X, ⟨hb, by omega⟩, .inl ⟨rfl, rfl⟩, by omega⟩, ⟨rfl, rfl, rfl, rfl, rfl, rfl, rfl⟩, ?_⟩⟩
    rintro ⟨i, k, b, hb2, hk, h2⟩ hR
    dsimp only at hR ⊢
    refine ⟨fun hc => ?_, fun hc => ?_⟩
    · have hc := of_decide_eq_true hc
      refine ⟨⟨by omega, by omega⟩, fun _ => ⟨⟨i, k + 1, b, hb2, hk, by omega⟩, ⟨rfl, rfl, rfl, AV.bool_inj' ?_, rfl, rfl, AV.int_inj' (wr_succ k (by omega))⟩, hR, by dsimp only; omega⟩⟩
      rw [take_snoc b 0 k (by omega), ct_snoc]
    · have hc := of_decide_eq_false hc
      intro _
      refine ⟨⟨i, 0, b, hb2, hk, by omega⟩, ⟨rfl, rfl, rfl, AV.bool_inj' ?_, rfl, rfl, rfl⟩, ?_⟩
      · rw [List.take_of_length_le (by omega)]
      rintro ⟨i', k', b', hb3, hk', h3⟩ hR'
      dsimp only at hR' ⊢
      have hl : (strip b').length ≤ b'.length := sO_len 24 b'
      refine ⟨fun hc2 => ?_, fun hc2 => ?_⟩
      · have hc2 := of_decide_eq_true hc2
        refine ⟨⟨by omega, by omega⟩, fun _ => ⟨fun h27 => ?_, fun _ => ⟨⟨i', k' + 1, b', hb3, hk', by omega⟩, ⟨rfl, rfl, rfl, rfl, rfl, rfl, AV.int_inj' (wr_succ k' (by omega))⟩, hR', by dsimp only; omega⟩⟩⟩
        exact absurd (of_decide_eq_true h27) (sO_ne 24 b' _ (getD_mem' (l := strip b') (by omega)))
      · refine ⟨by omega, fun hbad => ?_, fun _ => ⟨⟨i' + 1, by omega⟩, AV.int_inj' (wr_succ i' (by omega)), by dsimp only; omega⟩⟩
        exfalso
        rw [strip2] at hbad
        have e1 : decide ((b'.length : Int) < (strip b').length) = false := decide_eq_false (by omega)
        rw [e1] at hbad
        cases h27 : b'.contains 27 with
        | true => rw [h27] at hbad; simp at hbad
        | false =>
          have hn : ∀ c ∈ b', c ≠ 27 := by
            rintro c hc rfl
            rw [List.contains_iff_mem.2 hc] at h27
            cases h27
          have e2 : strip b' = b' := sO_id b' hn
          rw [h27, e2] at hbad
          simp at hbad
  · simp (config := {maxSteps := 2000000}) only [getE_lit1, List.getElem?_cons_zero, ldV_some, goOp_some, put_q, eo_mov, evG_no, Option.getD_some, ev_mov, av_t, upd_at, Nat.reduceEqDiff, lookL_cons, lookL_nil, if_false, if_true, gv_lst, bind1_some', un1_mov, evOps_nil, kEnd_at, hasG_no, hasG_nil, kEndB_f, kSeq_n, evC_seq, evC_region, eo_call, P14, CSp, evCl_mk, ev_call, avs_cons, avs_nil, consO_some, clO_some, call_pure, lends_cons, lend1_lst, lends_nil, consL_some', List.nil_append, callN_some, decU_u8s, and_self, u8s_len, true_and, callP_some, c2_lst, flat2_lst, backOK_nil, Bool.and_self, clQ_t, av_c, gv_bool, eo_len, ev_len, len_lst, gv_int, evC_block, evC_loop, I4_1, L4bS, S4b, SL_ge, lkL_cons, lkS_lst, lkS_int, lkS_bool, lkL_nil, lkM_nil, applyL_nil, SL_ge0, leL_cons, leV1_lst, leV1_int, leV1_bool, leL_nil, and_true, leM_nil, L4bR, SL_st, eo_cmp, ev_cmp, cmp2_some, cmp_lss, toR_some', evC_cond, evC_skip, eo_iaddrS, ev_iaddrS, bind2_some', iaddrS_lst, List.length_cons, List.length_nil, Nat.zero_add, beq_self_eq_true, iasB_true, Int.toNat_natCast, eo_load, ev_load, gv_ep, load_ep, getE_u8, valOf_one, evG_yes, pathG_bool, gG_some, guardR_q, guardL_nil, gv_gd, List.contains_cons, List.contains_nil, Bool.or_false, List.all_cons, List.all_nil, gvB_true, cmp_eql, eo_pick, ev_pick, pick3_some, pickV_bool, Bool.cond_true_left, hasG_yes, kEndB_t, kBlk_n, eo_arith, ev_arith, ungdS_at, ungd_int, arith_add, ungd_junk, kLoop_n, ungd_lst, ungd_bool, knowL_nil, askL_nil, knowL_cons, askL_cons, evC_exit, kSeq_e, kLoop_e, kBlk_e, kBlkB_t, I4_2, L4cS, S4c, L4cR, evC_ret, kBlk_r, kSeq_r, kLoop_r, kRet_r, retOK_eq, retL_cons, retV_t, retL_nil, lkR_one, lk1_bool, lkT_f, retOK_f, rtO_some, resV_one, ar_t, condK_bool, evC_draw, preK_some, needD_mov, preB_f, needD_call, needD_b2s, needD_cmp, needD_not, needD_pick, needD_len, preK_nil, evD_cons, evDk_some, newOK_none, Nat.reduceAdd, ev_b2s, b2s_lst, ByteE_u8s, bytesOf_u8s, gv_str, cmp_neqS, ev_not, un1_not, pathG_gd, List.cons_append, Bool.true_or, Bool.or_true, guardL_cons, pathP_cons, boolOf_bool, boolOf_gd, pathP_nil, implies_true, Bool.cond_false_right, cmp_gtr, evD_nil, S4a, knowD_cons, knowD_nil, pairD_cons, pairOK_eq, newMen_none, Nat.reduceBEq, pairB_t, pairD_nil, pairB_f, chkR_eq, pslots_gd, List.map_cons, List.map_nil, optN_some, disjN_cons, Bool.not_false, disjN_nil, newI_none, pslots_str, pslots_lst]
    have hb := shp_ok L
    have hsl := shp_len L
    refine ⟨by omega, fun _ => ⟨⟨1, 0, shp L, ⟨hb, by omega⟩, .inr ⟨rfl, rfl⟩, by omega⟩, ⟨rfl, rfl, rfl, rfl, rfl, rfl, rfl⟩, ?_⟩⟩
    rintro ⟨i, k, b, hb2, hk, h2⟩ hR
    dsimp only at hR ⊢
    refine ⟨fun hc => ?_, fun hc => ?_⟩
    · have hc := of_decide_eq_true hc
      refine ⟨⟨by omega, by omega⟩, fun _ => ⟨⟨i, k + 1, b, hb2, hk, by omega⟩, ⟨rfl, rfl, rfl, AV.bool_inj' ?_, rfl, rfl, AV.int_inj' (wr_succ k (by omega))⟩, hR, by dsimp only; omega⟩⟩
      rw [take_snoc b 0 k (by omega), ct_snoc]
    · have hc := of_decide_eq_false hc
      intro _
      refine ⟨⟨i, 0, b, hb2, hk, by omega⟩, ⟨rfl, rfl, rfl, AV.bool_inj' ?_, rfl, rfl, rfl⟩, ?_⟩
      · rw [List.take_of_length_le (by omega)]
      rintro ⟨i', k', b', hb3, hk', h3⟩ hR'
      dsimp only at hR' ⊢
      have hl : (strip b').length ≤ b'.length := sO_len 24 b'
      refine ⟨fun hc2 => ?_, fun hc2 => ?_⟩
      · have hc2 := of_decide_eq_true hc2
        refine ⟨⟨by omega, by omega⟩, fun _ => ⟨fun h27 => ?_, fun _ => ⟨⟨i', k' + 1, b', hb3, hk', by omega⟩, ⟨rfl, rfl, rfl, rfl, rfl, rfl, AV.int_inj' (wr_succ k' (by omega))⟩, hR', by dsimp only; omega⟩⟩⟩
        exact absurd (of_decide_eq_true h27) (sO_ne 24 b' _ (getD_mem' (l := strip b') (by omega)))
      · refine ⟨by omega, fun hbad => ?_, fun _ => ⟨⟨i' + 1, by omega⟩, AV.int_inj' (wr_succ i' (by omega)), by dsimp only; omega⟩⟩
        exfalso
        rw [strip2] at hbad
        have e1 : decide ((b'.length : Int) < (strip b').length) = false := decide_eq_false (by omega)
        rw [e1] at hbad
        cases h27 : b'.contains 27 with
        | true => rw [h27] at hbad; simp at hbad
        | false =>
          have hn : ∀ c ∈ b', c ≠ 27 := by
            rintro c hc rfl
            rw [List.contains_iff_mem.2 hc] at h27
            cases h27
          have e2 : strip b' = b' := sO_id b' hn
          rw [h27, e2] at hbad
          simp at hbad
end Go.Proofs.Ytfmndopgbikgjaa
