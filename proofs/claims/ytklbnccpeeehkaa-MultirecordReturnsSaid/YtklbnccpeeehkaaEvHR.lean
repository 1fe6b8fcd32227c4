/- A part of the proof: symbolic evaluation of the program's functions, proved sound against the model; no condition. -/
import Derived.Test.YtklbnccpeeehkaaEvHQ
namespace Go.Proofs.Ytklbnccpeeehkaa
open Go Go.RowKit Go.Ev
set_option linter.unusedSimpArgs false
set_option linter.unusedVariables false
set_option maxRecDepth 20000
/-- baseboard/baseboardlaw18.MultirecordReturns [23, 29, 3, 5] -/
def rc6 : RC :=
  (.seq
   (.region [
     ⟨(some 8), .mov (.c (.bool false)), none, []⟩] false)
   (.seq
    (.seq
     (.region [
       ⟨(some 22), .mov (.t 0), none, []⟩,
       ⟨(some 23), .call 9 [(.t 22)], none, [0]⟩,
       ⟨(some 24), .not (.t 23), none, [1]⟩,
       ⟨(some 25), .mov (.t 24), none, [2, 1]⟩,
       ⟨(some 26), .mov (.t 1), (some (25, false)), [3]⟩,
       ⟨(some 27), .len 0 (.t 26), (some (25, false)), [4, 3]⟩,
       ⟨(some 28), .cmp .gtr 0 (.t 27) (.c (.int .i64 100)), (some (25, false)), [5, 3]⟩,
       ⟨(some 29), .pick (.t 25) (.c (.bool true)) (.t 28), none, [3, 6]⟩] false)
     (.cond (.t 29)
      (.seq
       (.region [
         ⟨(some 30), .call 10 [], none, []⟩,
         ⟨(some 8), .mov (.t 30), none, [0, 0, 0]⟩] false)
       .ret)
      .skip))
    (.seq
     (.region [
       ⟨(some 31), .mov (.t 0), none, []⟩,
       ⟨(some 32), .call 11 [(.t 31)], none, [0]⟩,
       ⟨(some 9), .mov (.t 32), none, [1, 1, 0, 1]⟩] false)
     (.seq
      (.region [
        ⟨(some 33), .mov (.t 9), none, []⟩,
        ⟨(some 34), .call 15 [(.t 33), (.c (.int .i64 6))], none, [0]⟩,
        ⟨(some 10), .mov (.t 34), none, [1, 1, 0, 1]⟩] false)
      (.seq
       (.region [
         ⟨(some 35), .mov (.t 10), none, []⟩,
         ⟨(some 36), .mov (.t 9), none, []⟩,
         ⟨(some 37), .call 28 [(.t 36)], none, [1]⟩,
         ⟨(some 38), .mov (.t 9), none, []⟩,
         ⟨(some 39), .call 12 [(.t 38), (.c (.int .i64 9))], none, [3, 2]⟩,
         ⟨(some 40), .build [.int .u8 0, .nil] [(0, 1, (.t 37)), (1, 1, (.t 39))], none, [2, 4]⟩,
         ⟨(some 41), .bsliceO 32 1 [.int .u8 0, .nil] [(0, (.t 40))], none, [5]⟩,
         ⟨(some 42), .append 32 32 [.int .u8 0, .nil] (.t 35) (.t 41), none, [0, 6, 4]⟩,
         ⟨(some 10), .mov (.t 42), none, [7, 7, 0, 1, 2, 3, 4, 5, 6, 7]⟩] false)
       (.seq
        (.region [
          ⟨(some 44), .mov (.t 10), none, []⟩,
          ⟨(some 45), .call 24 [(.t 44)], none, [0]⟩,
          ⟨(some 43), .mov (.t 45), none, [1]⟩,
          ⟨(some 46), .extract 0 (.t 43), none, [2]⟩,
          ⟨(some 47), .extract 1 (.t 43), none, [2]⟩,
          ⟨(some 11), .mov (.t 46), none, [3, 1, 0, 1, 2, 3]⟩,
          ⟨(some 12), .mov (.t 47), none, [4, 5, 0, 1, 2, 3, 4, 5]⟩] false)
        (.seq
         (.seq
          (.region [
            ⟨(some 48), .mov (.t 10), none, []⟩,
            ⟨(some 49), .call 26 [(.t 48)], none, [0]⟩,
            ⟨(some 50), .not (.t 49), none, [1]⟩] false)
          (.cond (.t 50)
           (.seq
            (.region [
              ⟨(some 51), .mov (.t 12), none, []⟩,
              ⟨(some 52), .cmp .eql 0 (.t 51) (.c (.int .i64 1)), none, [0]⟩,
              ⟨(some 53), .mov (.t 52), none, [1]⟩,
              ⟨(some 54), .mov (.t 11), (some (53, true)), [2]⟩,
              ⟨(some 55), .len 0 (.t 54), (some (53, true)), [3, 2]⟩,
              ⟨(some 56), .cmp .eql 0 (.t 55) (.c (.int .i64 0)), (some (53, true)), [4, 2]⟩,
              ⟨(some 57), .pick (.t 53) (.t 56) (.c (.bool false)), none, [2, 5]⟩,
              ⟨(some 58), .mov (.t 57), none, [6, 2]⟩,
              ⟨(some 59), .call 10 [], (some (58, true)), [7, 7]⟩,
              ⟨(some 60), .pick (.t 58) (.t 59) (.c (.bool false)), none, [7, 8]⟩,
              ⟨(some 8), .mov (.t 60), none, [9, 8, 0, 1, 2, 3, 4, 5, 6, 7, 8, 9]⟩] false)
            .ret)
           .skip))
         (.seq
          (.region [
            ⟨(some 62), .mov (.t 11), none, []⟩,
            ⟨(some 63), .append 5 1 [.int .u8 0] (.c (.nil)) (.t 62), none, [0]⟩,
            ⟨(some 64), .mov (.t 1), none, []⟩,
            ⟨(some 65), .append 5 1 [.int .u8 0] (.t 63) (.t 64), none, [1, 2, 1]⟩,
            ⟨(some 66), .call 30 [(.t 65)], none, [3, 3]⟩,
            ⟨(some 61), .mov (.t 66), none, [4]⟩,
            ⟨(some 67), .extract 0 (.t 61), none, [5]⟩,
            ⟨(some 68), .extract 1 (.t 61), none, [5]⟩,
            ⟨(some 69), .extract 2 (.t 61), none, [5]⟩,
            ⟨(some 13), .mov (.t 67), none, [6, 4, 0, 1, 2, 3, 4, 5, 6]⟩,
            ⟨(some 14), .mov (.t 68), none, [7, 9, 0, 1, 2, 3, 4, 5, 6, 7, 9]⟩,
            ⟨(some 15), .mov (.t 69), none, [8, 10, 0, 1, 2, 3, 4, 5, 6, 7, 8, 9, 10]⟩] false)
          (.seq
           (.seq
            (.region [
              ⟨(some 70), .mov (.t 12), none, []⟩,
              ⟨(some 71), .cmp .neq 0 (.t 70) (.c (.int .i64 0)), none, [0]⟩,
              ⟨(some 72), .mov (.t 71), none, [1]⟩,
              ⟨(some 73), .mov (.t 15), (some (72, false)), [2]⟩,
              ⟨(some 74), .cmp .neq 0 (.t 73) (.c (.int .i64 0)), (some (72, false)), [3, 2]⟩,
              ⟨(some 75), .pick (.t 72) (.c (.bool true)) (.t 74), none, [2, 4]⟩,
              ⟨(some 76), .mov (.t 75), none, [5, 2]⟩,
              ⟨(some 77), .mov (.t 14), (some (76, false)), [6]⟩,
              ⟨(some 78), .mov (.t 11), (some (76, false)), [6]⟩,
              ⟨(some 79), .len 0 (.t 78), (some (76, false)), [8, 6]⟩,
              ⟨(some 80), .cmp .neq 0 (.t 77) (.t 79), (some (76, false)), [7, 9, 6]⟩,
              ⟨(some 81), .pick (.t 76) (.c (.bool true)) (.t 80), none, [6, 10]⟩,
              ⟨(some 82), .mov (.t 81), none, [11, 6]⟩,
              ⟨(some 83), .mov (.t 10), (some (82, false)), [12]⟩,
              ⟨(some 84), .mov (.t 13), (some (82, false)), [12]⟩,
              ⟨(some 85), .call 19 [(.t 83), (.t 84)], (some (82, false)), [13, 14, 12, 12]⟩,
              ⟨(some 86), .not (.t 85), (some (82, false)), [15, 12]⟩,
              ⟨(some 87), .pick (.t 82) (.c (.bool true)) (.t 86), none, [12, 16]⟩,
              ⟨(some 88), .mov (.t 87), none, [17, 15]⟩,
              ⟨(some 89), .mov (.t 14), (some (88, false)), [18]⟩,
              ⟨(some 90), .cmp .lss 0 (.t 89) (.c (.int .i64 5)), (some (88, false)), [19, 18]⟩,
              ⟨(some 91), .pick (.t 88) (.c (.bool true)) (.t 90), none, [18, 20]⟩] false)
            (.cond (.t 91)
             (.seq
              (.region [
                ⟨(some 8), .mov (.c (.bool false)), none, []⟩] false)
              .ret)
             .skip))
           (.seq
            (.region [
              ⟨(some 93), .mov (.t 11), none, []⟩,
              ⟨(some 94), .mov (.t 2), none, []⟩,
              ⟨(some 95), .mov (.t 14), none, []⟩,
              ⟨(some 96), .call 16 [(.t 94), (.t 95)], none, [1, 2]⟩,
              ⟨(some 97), .slice 1 (.t 93) none (some (.t 96)), none, [0, 3]⟩,
              ⟨(some 98), .call 30 [(.t 97)], none, [4, 3]⟩,
              ⟨(some 92), .mov (.t 98), none, [5]⟩,
              ⟨(some 99), .extract 0 (.t 92), none, [6]⟩,
              ⟨(some 100), .extract 1 (.t 92), none, [6]⟩,
              ⟨(some 101), .extract 2 (.t 92), none, [6]⟩,
              ⟨(some 16), .mov (.t 99), none, [7, 5, 0, 1, 2, 3, 4, 5, 6, 7]⟩,
              ⟨(some 17), .mov (.t 100), none, [8, 10, 0, 1, 2, 3, 4, 5, 6, 7, 8, 10]⟩,
              ⟨(some 18), .mov (.t 101), none, [9, 11, 0, 1, 2, 3, 4, 5, 6, 7, 8, 9, 10, 11]⟩] false)
            (.seq
             (.seq
              (.region [
                ⟨(some 102), .mov (.t 18), none, []⟩,
                ⟨(some 103), .cmp .neq 0 (.t 102) (.c (.int .i64 4)), none, [0]⟩] false)
              (.cond (.t 103)
               (.seq
                (.region [
                  ⟨(some 8), .mov (.c (.bool false)), none, []⟩] false)
                .ret)
               .skip))
             (.seq
              (.seq
               (.region [
                 ⟨(some 104), .mov (.t 3), none, []⟩,
                 ⟨(some 105), .cmp .eql 0 (.t 104) (.c (.int .u8 0)), none, [0]⟩] false)
               (.cond (.t 105)
                (.seq
                 (.region [
                   ⟨(some 106), .call 10 [], none, []⟩,
                   ⟨(some 8), .mov (.t 106), none, [0, 0, 0]⟩] false)
                 .ret)
                .skip))
              (.seq
               (.region [
                 ⟨(some 107), .mov (.t 11), none, []⟩,
                 ⟨(some 108), .mov (.t 2), none, []⟩,
                 ⟨(some 109), .mov (.t 14), none, []⟩,
                 ⟨(some 110), .call 16 [(.t 108), (.t 109)], none, [1, 2]⟩,
                 ⟨(some 111), .iaddrS [.int .u8 0] (.t 107) (.t 110), none, [0, 3]⟩,
                 ⟨(some 112), .load 1 false (.t 111), none, [4]⟩,
                 ⟨(some 113), .mov (.t 3), none, []⟩,
                 ⟨(some 114), .arith .xor (.t 112) (.t 113), none, [5, 6]⟩,
                 ⟨(some 115), .iaddrS [.int .u8 0] (.t 107) (.t 110), none, [0, 3, 0, 1, 2, 3, 4, 5, 6, 7]⟩,
                 ⟨none, .store 1 (.t 115) (.t 114), none, [8, 7, 3, 0, 1, 2, 3, 4, 5, 6, 7]⟩] false)
               (.seq
                (.region [
                  ⟨(some 117), .mov (.t 11), none, []⟩,
                  ⟨(some 118), .call 30 [(.t 117)], none, [0]⟩,
                  ⟨(some 116), .mov (.t 118), none, [1]⟩,
                  ⟨(some 119), .extract 0 (.t 116), none, [2]⟩,
                  ⟨(some 120), .extract 1 (.t 116), none, [2]⟩,
                  ⟨(some 121), .extract 2 (.t 116), none, [2]⟩,
                  ⟨(some 19), .mov (.t 119), none, [3, 1, 0, 1, 2, 3]⟩,
                  ⟨(some 20), .mov (.t 120), none, [4, 6, 0, 1, 2, 3, 4, 6]⟩,
                  ⟨(some 21), .mov (.t 121), none, [5, 7, 0, 1, 2, 3, 4, 5, 6, 7]⟩] false)
                (.seq
                 (.region [
                   ⟨(some 122), .mov (.t 21), none, []⟩,
                   ⟨(some 123), .cmp .eql 0 (.t 122) (.c (.int .i64 5)), none, [0]⟩,
                   ⟨(some 124), .mov (.t 123), none, [1]⟩,
                   ⟨(some 125), .call 10 [], (some (124, true)), [2, 2]⟩,
                   ⟨(some 126), .pick (.t 124) (.t 125) (.c (.bool false)), none, [2, 3]⟩,
                   ⟨(some 8), .mov (.t 126), none, [4, 3, 0, 1, 2, 3, 4]⟩] false)
                 .ret)))))))))))))))
def rv6 : List RV := [.t 8]
theorem rc6_ok : comp Try.prog Try.f6.ntmps (Try.f6.body.getD .skip) = some (erase rc6) := by kernel_rfl
theorem rv6_ok : compRes Try.prog Try.f6.results.toList = some rv6 := by kernel_rfl
set_option maxHeartbeats 4000000 in
theorem walk6 {Phi : Nat → Option Ctr} (P9 : Phi 9 = some CDl) (P10 : Phi 10 = some CAw) (P11 : Phi 11 = some CRl) (P12 : Phi 12 = some CDBo) (P15 : Phi 15 = some CDRf) (P16 : Phi 16 = some CMd) (P19 : Phi 19 = some CSm) (P24 : Phi 24 = some CEx) (P26 : Phi 26 = some CVl) (P28 : Phi 28 = some CDy) (P30 : Phi 30 = some CDw) (L B : List Int) (a m : Int) (hB : Okb B) (hm : 0 ≤ m ∧ m ≤ 255) : evC Phi (noI) rc6 ⟨initS [.lst [.int .i64 0] (i64s L), .lst [.int .u8 0] (u8s B), .int .i64 a, .int .u8 m], initM false []⟩ (kRet rv6 (.bool true) false []) := by
  simp (config := {maxSteps := 2000000, contextual := true}) only [rc6, initM_f, rv6, evC_seq, evC_region, eo_mov, evG_no, Option.getD_some, ev_mov, av_c, gv_bool, bind1_some', un1_mov, goOp_some, put_q, evOps_nil, kEnd_at, hasG_no, hasG_nil, kEndB_f, kSeq_n, av_t, upd_at, Nat.reduceEqDiff, ↓reduceIte, initS_at, List.getD_cons_zero, gv_lst, eo_call, P9, CDl, evCl_mk, ev_call, avs_cons, avs_nil, consO_some, clO_some, call_pure, lends_cons, lend1_lst, lends_nil, consL_some', List.nil_append, callN_some, decI_i64s, and_self, callP_some, c2_bool, flat2_bool, backOK_nil, Bool.and_self, clQ_t, eo_not, ev_not, un1_not, evG_yes, pathG_bool, gG_some, List.getD_cons_succ, guardR_q, guardL_nil, eo_len, ev_len, gv_gd, List.contains_cons, List.contains_nil, Bool.or_false, List.all_cons, beq_self_eq_true, List.all_nil, gvB_true, len_lst, u8s_len, eo_cmp, ev_cmp, gv_int, cmp2_some, cmp_gtr, toR_some', eo_pick, ev_pick, pick3_some, pickV_bool, Bool.cond_true_left, hasG_yes, kEndB_t, evC_cond, P10, CAw, evC_ret, kSeq_r, kRet_r, retOK_eq, retL_cons, retV_t, retL_nil, lkR_one, lk1_bool, lkT_f, applyL_nil, retOK_f, rtO_some, resV_one, leV1_bool, knowL_nil, askL_nil, askL_cons, evC_skip, ungdS_at, ungd_lst, P11, CRl, evCl_ext, evXV_some, evX_f, evXA_some, evXN_some, evXP_eq, wfX2_fp, c0_lst, c0_int, frs2_fp, idsOK_eq, List.map_cons, List.map_nil, nodupN_cons, Bool.not_false, nodupN_nil, Nat.reduceLT, decide_true, flatX2_fp, flat0_lst, flat0_int, Bool.and_true, flatL_cells, flatL_nil, evOpsk_at, backX_nil, putX_eq, unfr2_fp, Nat.reduceMul, Nat.reduceAdd, Nat.add_zero, addF_cons, addF_nil, putY_eq, gv_ptr, P15, CDRf, evX_t, updM_at, evXC_cells, lend1_int, evXB_some, Int.reduceLE, evXM_some, evXS_eq, wfX2_fr, List.length_cons, List.length_nil, Nat.zero_add, frs2_fr, flatX2_fr, flatC_int, flatC_nil, Bool.true_and, flatL_buf, and_true, setB_eq, unfr2_fr, gv_vw, killS_at, kill3_ptr, P28, CDy, call_state, killM_at, killO_some, killB_cells, kill0_lst, kill0_int, callC_cells, callB_some, callD_t, callS_some, c2_int, flat2_int, clU_t, put_u, liveB_cells, P12, CDBo, true_and, wfX2_lst, frs2_lst, flatX2_lst, eo_build, ev_build, fillA_cons, unfr2_lst, faK_some, cells_int, faC_some, Nat.reduceLeDiff, setC_cons, List.set_cons_zero, setC_nil, cells_lst, List.set_cons_succ, fillA_nil, blO_some, eo_bsliceO, vwsG_cons, ar_t, vws1_agg, vwsL_cons, vws0_int, vws0_lst, vwsL_nil, vwsG_nil, frzL_nil, goF_eq, ev_bsliceO, List.replicate_succ, List.replicate_zero, fillS_cons, gv_agg, fsK_some, cells_agg, fsC_some, fillS_nil, blO2_some, put_n, killB_buf, eo_append, ev_append, kill3_vw, bind2_some', appR_vw, ysOf_vw, ysV_buf, appV_buf, appK_some, recs_len, recs_snoc, List.cons_append, P24, CEx, lend1_vw, lendB_buf, decR_recs, ↓Bool.forall_bool, wfX2_tup, wfX1_nil, wfX1_int, frs2_tup, frsV_cons, frs1_nil, frs1_int, frsV_nil, flatX2_tup, flatX1_nil, flatX1_int, backX_t, unfr2_tup, unfr1_nil, unfr1_int, gv_tup, eo_extract, ev_extract, un1_extract, List.getElem?_cons_zero, List.getElem?_cons_succ, gv_nil, P26, CVl, backOK_cons, cmp_eql, len_nil, Bool.cond_false_right, eo_call_g, guardL_cons, pathP_cons, boolOf_bool, pathP_nil, imp_self, ungd_bool, appR_nil, ysOf_nil, Nat.mul_one, kill3_lst, ysOf_lst, P30, CDw, decU_u8s, true_imp_iff, condK_bool, Bool.true_eq_false, false_imp_iff, implies_true, wfX1_fr, frs1_fr, flatX1_fr, unfr1_fr, Bool.not_true, len_vw, lenV_buf, u8s_join, dcV_full, wfX1_lst, frs1_lst, flatX1_lst, backX_f, frzL_cons, frzQ_buf, frzP_t, unfr1_lst, frzSl_at, kill3_int, frz3_int, cmp_neq, frz3_vw, frzM_at, frzO_some, frzB_buf, P19, CSm, cmp_lss, ungd_vw, ungd_int, P16, CMd, eo_slice, ev_slice, boundA_none, boundA_some, optS_some, sliceO_some, slice_vw, slB_buf, loOf_none, hiOf_int, slV_some, Int.reduceToNat, gv_sv, lend1_sv, lendP_buf, lendQ_t, List.drop_zero, u8s_take, dcV_cut, eo_iaddrS, ev_iaddrS, iaddrS_vw, iasV_buf, iasW_t, eo_load, ev_load, gv_bp, load_bp, ldP_buf, getE_u8, valOf_one, ldQ_t, eo_arith, ev_arith, arith_xor, eo_store, vwsT_bp, vws1_int, Option.getD_none, ev_store, store_bp, stP_buf, stQ_t, u8s_set, put_s, liveB_buf, List.length_set, XR_okT, XR_pos, knowL_cons, dcV_flip m hm, Bool.false_eq_true]
  intro h
  simp only [Bool.or_eq_false_iff, Bool.not_eq_false', decide_eq_false_iff_not] at h
  obtain ⟨h1, h2⟩ := h
  rintro _ ⟨q, a1⟩ ⟨⟨hq, hqo⟩, ha1⟩
  dsimp only at hq hqo ha1 ⊢
  refine ⟨dyA_nn ha1, ?_⟩
  rintro ⟨P, a2⟩ ⟨⟨hP, hPo⟩, ha2⟩
  dsimp only at hP hPo ⊢
  refine ⟨by omega, by omega, fun hv => ?_⟩
  have ho := XR_ok (L := L) (a := a1) hqo hPo
  have h5 := enL_pos hv (by simp)
  have h6 := enL_len (q ++ [⟨dyV L a1, P⟩])
  have hEo := enL_ok ho
  generalize enL (q ++ [⟨dyV L a1, P⟩]) = E at h5 h6 hEo ⊢
  have bd := modI_bd (n := a) (m := (E.length : Int)) (by omega) (by omega)
  refine ⟨flatU E, by omega, by omega, by omega, by omega, ⟨by simp only [List.length_append]; omega, hEo.app hB⟩, fun _ => ⟨fun h => ?_, fun _ => ⟨by omega, ⟨by omega, by omega⟩, ⟨by simp only [List.length_take]; omega, hEo.take _⟩, fun _ h0 => ⟨by omega, ⟨by omega, by omega⟩, fun _ => ⟨by omega, ⟨by omega, by omega⟩, by omega, by omega, ?_⟩⟩⟩⟩⟩
  · simp at h; omega
  · have hx := xor_ne (hEo.getD (modI a (E.length : Int)).toNat) hm (of_decide_eq_false h0)
    exact fun y hy => (List.mem_or_eq_of_mem_set hy).elim (hEo y) fun e => e ▸ hx.1
end Go.Proofs.Ytklbnccpeeehkaa
