/- A part of the proof: symbolic evaluation of the program's functions, proved sound against the model; no condition. -/
import Derived.Test.YtknapnleecepaaaEvJG
namespace Go.Proofs.Ytknapnleecepaaa
open Go Go.RowKit Go.Ev
set_option linter.unusedSimpArgs false
set_option linter.unusedVariables false
set_option maxRecDepth 20000
/-- baseboard/baseboardlaw36.awake [] -/
def rc8 : RC :=
  (.seq
   (.region [
     ⟨(some 0), .mov (.c (.bool false)), none, []⟩] false)
   (.seq
    (.region [
      ⟨(some 20), .call 32 [], none, []⟩,
      ⟨(some 21), .bsliceO 5 5 [.int .u8 0] [(0, (.c (.int .u8 104))), (1, (.c (.int .u8 101))), (2, (.c (.int .u8 108))), (3, (.c (.int .u8 108))), (4, (.c (.int .u8 111)))], none, []⟩,
      ⟨(some 22), .mkstr (.t 21), none, [1]⟩,
      ⟨(some 23), .call 21 [(.t 20), (.t 22)], none, [0, 2, 0]⟩,
      ⟨(some 19), .mov (.t 23), none, [3]⟩,
      ⟨(some 24), .extract 0 (.t 19), none, [4]⟩,
      ⟨(some 25), .extract 1 (.t 19), none, [4]⟩,
      ⟨(some 1), .alloc [.nil, .bool false, .nil, .bool false, .bool false, .int .i64 0, .int .i64 0, .int .i64 0, .int .i64 0, .int .i64 0], none, []⟩,
      ⟨none, .store 10 (.t 1) (.t 24), none, [7, 5, 3, 0, 1, 2, 3, 4, 5, 7]⟩,
      ⟨(some 2), .mov (.t 25), none, [6, 8, 0, 1, 2, 3, 4, 5, 6, 7, 8]⟩] false)
    (.seq
     (.region [
       ⟨(some 26), .call 32 [], none, []⟩,
       ⟨(some 3), .alloc [.nil, .bool false, .nil, .bool false, .bool false, .int .i64 0, .int .i64 0, .int .i64 0, .int .i64 0, .int .i64 0], none, []⟩,
       ⟨none, .store 10 (.t 3) (.t 26), none, [1, 0, 0, 0, 1]⟩] false)
     (.seq
      (.region [
        ⟨(some 27), .faddr 7 (.t 3), none, []⟩,
        ⟨none, .store 1 (.t 27) (.c (.int .i64 2)), none, [0]⟩] false)
      (.seq
       (.region [
         ⟨(some 29), .load 10 true (.t 1), none, []⟩,
         ⟨(some 30), .call 23 [(.t 29)], none, [0]⟩,
         ⟨(some 28), .mov (.t 30), none, [1]⟩,
         ⟨(some 31), .extract 0 (.t 28), none, [2]⟩,
         ⟨(some 32), .extract 1 (.t 28), none, [2]⟩,
         ⟨(some 33), .extract 2 (.t 28), none, [2]⟩,
         ⟨none, .store 10 (.t 1) (.t 31), none, [3, 1, 0, 1, 2, 3]⟩,
         ⟨(some 4), .mov (.t 32), none, [4, 6, 0, 1, 2, 3, 4, 6]⟩,
         ⟨(some 5), .mov (.t 33), none, [5, 7, 0, 1, 2, 3, 4, 5, 6, 7]⟩] false)
       (.seq
        (.region [
          ⟨(some 35), .load 10 true (.t 3), none, []⟩,
          ⟨(some 36), .mov (.t 4), none, []⟩,
          ⟨(some 37), .call 18 [(.t 35), (.t 36)], none, [0, 1]⟩,
          ⟨(some 34), .mov (.t 37), none, [2]⟩,
          ⟨(some 38), .extract 0 (.t 34), none, [3]⟩,
          ⟨(some 39), .extract 1 (.t 34), none, [3]⟩,
          ⟨(some 40), .extract 2 (.t 34), none, [3]⟩,
          ⟨(some 41), .extract 3 (.t 34), none, [3]⟩,
          ⟨none, .store 10 (.t 3) (.t 38), none, [4, 2, 0, 1, 2, 3, 4]⟩,
          ⟨(some 6), .mov (.t 39), none, [5, 8, 0, 1, 2, 3, 4, 5, 8]⟩,
          ⟨(some 7), .mov (.t 40), none, [6, 9, 0, 1, 2, 3, 4, 5, 6, 8, 9]⟩,
          ⟨(some 8), .mov (.t 41), none, [7, 10, 0, 1, 2, 3, 4, 5, 6, 7, 8, 9, 10]⟩] false)
        (.seq
         (.region [
           ⟨(some 43), .load 10 true (.t 3), none, []⟩,
           ⟨(some 44), .call 23 [(.t 43)], none, [0]⟩,
           ⟨(some 42), .mov (.t 44), none, [1]⟩,
           ⟨(some 45), .extract 0 (.t 42), none, [2]⟩,
           ⟨(some 46), .extract 1 (.t 42), none, [2]⟩,
           ⟨(some 47), .extract 2 (.t 42), none, [2]⟩,
           ⟨none, .store 10 (.t 3) (.t 45), none, [3, 1, 0, 1, 2, 3]⟩,
           ⟨(some 9), .mov (.t 46), none, [4, 6, 0, 1, 2, 3, 4, 6]⟩,
           ⟨(some 10), .mov (.t 47), none, [5, 7, 0, 1, 2, 3, 4, 5, 6, 7]⟩] false)
         (.seq
          (.region [
            ⟨(some 49), .load 10 true (.t 1), none, []⟩,
            ⟨(some 50), .mov (.t 9), none, []⟩,
            ⟨(some 51), .call 18 [(.t 49), (.t 50)], none, [0, 1]⟩,
            ⟨(some 48), .mov (.t 51), none, [2]⟩,
            ⟨(some 52), .extract 0 (.t 48), none, [3]⟩,
            ⟨(some 53), .extract 1 (.t 48), none, [3]⟩,
            ⟨(some 54), .extract 2 (.t 48), none, [3]⟩,
            ⟨(some 55), .extract 3 (.t 48), none, [3]⟩,
            ⟨none, .store 10 (.t 1) (.t 52), none, [4, 2, 0, 1, 2, 3, 4]⟩,
            ⟨(some 11), .mov (.t 53), none, [5, 8, 0, 1, 2, 3, 4, 5, 8]⟩,
            ⟨(some 12), .mov (.t 54), none, [6, 9, 0, 1, 2, 3, 4, 5, 6, 8, 9]⟩,
            ⟨(some 13), .mov (.t 55), none, [7, 10, 0, 1, 2, 3, 4, 5, 6, 7, 8, 9, 10]⟩] false)
          (.seq
           (.region [
             ⟨(some 57), .load 10 true (.t 1), none, []⟩,
             ⟨(some 58), .call 23 [(.t 57)], none, [0]⟩,
             ⟨(some 56), .mov (.t 58), none, [1]⟩,
             ⟨(some 59), .extract 0 (.t 56), none, [2]⟩,
             ⟨(some 60), .extract 1 (.t 56), none, [2]⟩,
             ⟨(some 61), .extract 2 (.t 56), none, [2]⟩,
             ⟨(some 14), .alloc [.nil, .bool false, .nil, .bool false, .bool false, .int .i64 0, .int .i64 0, .int .i64 0, .int .i64 0, .int .i64 0], none, []⟩,
             ⟨none, .store 10 (.t 14) (.t 59), none, [6, 3, 1, 0, 1, 2, 3, 6]⟩,
             ⟨(some 15), .mov (.t 60), none, [4, 7, 0, 1, 2, 3, 4, 6, 7]⟩,
             ⟨(some 16), .mov (.t 61), none, [5, 8, 0, 1, 2, 3, 4, 5, 6, 7, 8]⟩] false)
           (.seq
            (.region [
              ⟨(some 63), .mov (.t 15), none, []⟩,
              ⟨(some 64), .call 11 [(.t 63)], none, [0]⟩,
              ⟨(some 62), .mov (.t 64), none, [1]⟩,
              ⟨(some 65), .extract 0 (.t 62), none, [2]⟩,
              ⟨(some 66), .extract 1 (.t 62), none, [2]⟩,
              ⟨(some 17), .alloc [.int .i64 0, .int .i64 0, .int .i64 0, .bool false, .nil], none, []⟩,
              ⟨none, .store 5 (.t 17) (.t 65), none, [5, 3, 1, 0, 1, 2, 3, 5]⟩,
              ⟨(some 18), .mov (.t 66), none, [4, 6, 0, 1, 2, 3, 4, 5, 6]⟩] false)
            (.seq
             (.region [
               ⟨(some 67), .mov (.t 2), none, []⟩,
               ⟨(some 68), .cmp .eql 0 (.t 67) (.c (.int .i64 5)), none, [0]⟩,
               ⟨(some 69), .mov (.t 68), none, [1]⟩,
               ⟨(some 70), .mov (.t 5), (some (69, true)), [2]⟩,
               ⟨(some 71), .pick (.t 69) (.t 70) (.c (.bool false)), none, [2, 3]⟩,
               ⟨(some 72), .mov (.t 71), none, [4, 2]⟩,
               ⟨(some 73), .mov (.t 10), (some (72, true)), [5]⟩,
               ⟨(some 74), .pick (.t 72) (.t 73) (.c (.bool false)), none, [5, 6]⟩,
               ⟨(some 75), .mov (.t 74), none, [7, 5]⟩,
               ⟨(some 76), .mov (.t 16), (some (75, true)), [8]⟩,
               ⟨(some 77), .pick (.t 75) (.t 76) (.c (.bool false)), none, [8, 9]⟩,
               ⟨(some 78), .mov (.t 77), none, [10, 8]⟩,
               ⟨(some 79), .mov (.t 8), (some (78, true)), [11]⟩,
               ⟨(some 80), .cmp .eql 0 (.t 79) (.c (.int .i64 0)), (some (78, true)), [12, 11]⟩,
               ⟨(some 81), .pick (.t 78) (.t 80) (.c (.bool false)), none, [11, 13]⟩,
               ⟨(some 82), .mov (.t 81), none, [14, 11]⟩,
               ⟨(some 83), .mov (.t 13), (some (82, true)), [15]⟩,
               ⟨(some 84), .cmp .eql 0 (.t 83) (.c (.int .i64 0)), (some (82, true)), [16, 15]⟩,
               ⟨(some 85), .pick (.t 82) (.t 84) (.c (.bool false)), none, [15, 17]⟩,
               ⟨(some 86), .mov (.t 85), none, [18, 15]⟩,
               ⟨(some 87), .mov (.t 18), (some (86, true)), [19]⟩,
               ⟨(some 88), .cmp .eql 0 (.t 87) (.c (.int .i64 0)), (some (86, true)), [20, 19]⟩,
               ⟨(some 89), .pick (.t 86) (.t 88) (.c (.bool false)), none, [19, 21]⟩,
               ⟨(some 90), .mov (.t 89), none, [22, 19]⟩,
               ⟨(some 91), .mov (.t 6), (some (90, true)), [23]⟩,
               ⟨(some 92), .b2s (.t 91), (some (90, true)), [24, 23]⟩,
               ⟨(some 93), .cmp .eql 2 (.t 92) (.c (.str [104, 101])), (some (90, true)), [25, 23]⟩,
               ⟨(some 94), .pick (.t 90) (.t 93) (.c (.bool false)), none, [23, 26]⟩,
               ⟨(some 95), .mov (.t 94), none, [27, 23]⟩,
               ⟨(some 96), .faddr 4 (.t 17), (some (95, true)), [28]⟩,
               ⟨(some 97), .load 1 false (.t 96), (some (95, true)), [29, 28]⟩,
               ⟨(some 98), .b2s (.t 97), (some (95, true)), [30, 28]⟩,
               ⟨(some 99), .cmp .eql 2 (.t 98) (.c (.str [108, 108, 111])), (some (95, true)), [31, 28]⟩,
               ⟨(some 100), .pick (.t 95) (.t 99) (.c (.bool false)), none, [28, 32]⟩,
               ⟨(some 101), .mov (.t 100), none, [33, 28]⟩,
               ⟨(some 102), .faddr 0 (.t 17), (some (101, true)), [34]⟩,
               ⟨(some 103), .load 1 false (.t 102), (some (101, true)), [35, 34]⟩,
               ⟨(some 104), .cmp .eql 0 (.t 103) (.c (.int .i64 2)), (some (101, true)), [36, 34]⟩,
               ⟨(some 105), .pick (.t 101) (.t 104) (.c (.bool false)), none, [34, 37]⟩,
               ⟨(some 0), .mov (.t 105), none, [38, 34, 0, 1, 2, 3, 4, 5, 6, 7, 8, 9, 10, 11, 12, 13, 14, 15, 16, 17, 18, 19, 20, 21, 22, 23, 24, 25, 26, 27, 28, 29, 30, 31, 32, 33, 34, 35, 36, 37, 38]⟩] false)
             .ret)))))))))))
def rv8 : List RV := [.t 0]
theorem rc8_ok : comp Try.prog Try.f8.ntmps (Try.f8.body.getD .skip) = some (erase rc8) := by kernel_rfl
theorem rv8_ok : compRes Try.prog Try.f8.results.toList = some rv8 := by kernel_rfl
instance (L : List Int) : Decidable (Okb L) := by unfold Okb; infer_instance
set_option maxHeartbeats 4000000 in
theorem walk8 {Phi : Nat → Option Ctr} (P32 : Phi 32 = some DNw) (P21 : Phi 21 = some DWr) (P23 : Phi 23 = some DPo) (P18 : Phi 18 = some DRe) (P11 : Phi 11 = some DDe)  : evC Phi (noI) rc8 ⟨initS [], initM false []⟩ (kRet rv8 (.bool true) false []) := by
  simp (config := {maxSteps := 2000000}) only [rc8, initM_f, rv8, evC_seq, evC_region, eo_mov, evG_no, Option.getD_some, ev_mov, av_c, gv_bool, bind1_some', un1_mov, goOp_some, put_q, evOps_nil, kEnd_at, hasG_no, hasG_nil, kEndB_f, kSeq_n, eo_call, P32, DNw, Ln.av, evCl_mk, ev_call, avs_nil, clE_some, callE_pure, lends_nil, callN_some, callP_some, List.nil_append, c2_agg, List.all_cons, c0_lst, c0_bool, c0_int, List.all_nil, Bool.and_self, flat2_agg, flat0_lst, flat0_bool, flat0_int, Bool.and_true, Bool.true_and, backOK_nil, clQ_t, eo_bsliceO, vwsG_cons, ar_c, vws1_int, vwsG_nil, frzL_nil, goF_eq, ev_bsliceO, List.length_cons, List.length_nil, Nat.zero_add, List.replicate_succ, List.replicate_zero, fillS_cons, gv_int, fsK_some, cells_int, fsC_some, Nat.reduceAdd, Nat.reduceLT, and_self, ↓reduceIte, List.set_cons_zero, List.set_cons_succ, fillS_nil, blO2_some, Nat.reduceMul, put_n, killB_buf, eo_mkstr, ar_t, upd_at, mkS1_vw, updM_at, mkS2_buf, Nat.reduceLeDiff, decide_true, evOpsk_at, P21, DWr, avs_cons, av_t, Nat.reduceEqDiff, frzSl_at, killS_at, kill3_agg, List.map_cons, kill0_lst, kill0_bool, kill0_int, List.map_nil, frz3_agg, frz0_lst, frz0_bool, frz0_int, gv_agg, gv_lst, consO_some, lends_cons, lend1_agg, lendC_cons, lendA_lst, lendA_bool, lendA_int, lendC_nil, consL_some', aggL_some, lend1_lst, decU_u8s, decU_cons, decU_nil, true_and, u8s_len, and_true, c2_tup, c1_agg, c1_int, flat2_tup, flat1_agg, flat1_int, gv_tup, eo_extract, ev_extract, un1_extract, List.getElem?_cons_zero, toR_some', List.getElem?_cons_succ, eo_alloc, ev_alloc, Nat.mul_one, killB_cells, kill0_nil, eo_store, vwsT_ptr, Option.getD_none, ev_store, gv_ptr, bind2_some', store_ptr, cells_agg, stB_cells, stC_true, setC_cons, setC_nil, put_s, liveB_cells, kill3_int, eo_faddr, ev_faddr, faddr_ptr, eo_load, ev_load, kill3_ptr, load_ptr, killM_at, killO_some, ldB_cells, valOf_agg, valB_true, List.drop_zero, List.take_succ_cons, List.take_zero, ldV_some, P23, DPo, Ln.eta, c1_lst, c1_bool, flat1_lst, flat1_bool, P18, DRe, kill3_lst, kill3_bool, P11, DDe, Ck.av, eo_cmp, ev_cmp, cmp2_some, cmp_eql, evG_yes, pathG_bool, gG_some, guardR_q, guardL_nil, eo_pick, ev_pick, gv_gd, List.contains_cons, List.contains_nil, Bool.or_false, beq_self_eq_true, gvB_true, pick3_some, pickV_bool, Bool.cond_false_right, eo_b2s, ev_b2s, b2s_lst, ByteE_u8s, bytesOf_u8s, guardL_cons, pathP_cons, boolOf_bool, pathP_nil, implies_true, gv_str, cmp_eqlS, valOf_one, Nat.add_zero, hasG_yes, kEndB_t, evC_ret, kRet_r, retOK_eq, retL_cons, retV_t, ungdS_at, ungd_bool, retL_nil, lkR_one, lk1_bool, lkT_f, applyL_nil, retOK_f, rtO_some, resV_one, leV1_bool, knowL_nil, askL_nil, askL_cons]
  refine ⟨List.cons_ne_nil _ _, ?_⟩
  repeat' (apply And.intro)
  all_goals first | rfl | exact AV.bool_inj' (by decide +kernel) | decide +kernel
end Go.Proofs.Ytknapnleecepaaa
