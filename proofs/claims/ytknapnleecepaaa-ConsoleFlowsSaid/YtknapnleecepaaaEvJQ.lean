/- A part of the proof: symbolic evaluation of the program's functions, proved sound against the model; no condition. -/
import Derived.Test.YtknapnleecepaaaEvJP
namespace Go.Proofs.Ytknapnleecepaaa
open Go Go.RowKit Go.Ev
set_option linter.unusedSimpArgs false
set_option linter.unusedVariables false
set_option maxRecDepth 20000
structure K15a (L : List Int) where
  a : Ln
  b : Ln
  W : List (List Int)
  at_ : Int
  k : Nat
  ha : OkL a
  hb : OkL b
  hW : OkW W
  ht : 0 ≤ at_
  hk : W.length + k ≤ 256
def S15a (L : List Int) (p : K15a L) : SL := ⟨[(0, .ptr 0 0), (4, .ptr 320 0), (5, .ptr 384 0), (7, .ptr 512 0), (8, .ptr 576 0), (9, .vw 3200 0 0 0), (10, .int .i64 p.k)], [(0, .cells [.lst [.int .u8 0] (u8s L), .int .i64 p.at_]), (320, .cells [.nil, .bool false, .nil, .bool false, .bool false, .int .i64 0, .int .i64 0, .int .i64 0, .int .i64 0, .int .i64 0]), (384, .cells [.nil, .bool false, .nil, .bool false, .bool false, .int .i64 0, .int .i64 0, .int .i64 0, .int .i64 0, .int .i64 0]), (512, .cells [.lst [.int .u8 0] (u8s p.a.w), .bool p.a.wi, .lst [.int .u8 0] (u8s p.a.s), .bool p.a.sb, .bool p.a.bu, .int .i64 p.a.sq, .int .i64 p.a.rc, .int .i64 p.a.ro, .int .i64 p.a.ak, .int .i64 p.a.ct]), (576, .cells [.lst [.int .u8 0] (u8s p.b.w), .bool p.b.wi, .lst [.int .u8 0] (u8s p.b.s), .bool p.b.sb, .bool p.b.bu, .int .i64 p.b.sq, .int .i64 p.b.rc, .int .i64 p.b.ro, .int .i64 p.b.ak, .int .i64 p.b.ct]), (3200, .buf 22 [.nil] (wrs p.W))]⟩
abbrev L15a (L : List Int) : LI := ⟨K15a L, S15a L, fun p => p.k, fun p q => True⟩
theorem L15aS (L : List Int) : (L15a L).S = S15a L := rfl
theorem L15aM (L : List Int) (p : K15a L) : (L15a L).μ p = p.k := rfl
theorem L15aR (L : List Int) (p q : K15a L) : (L15a L).R p q = (True) := rfl
def I15 (L : List Int) : Nat → LI := fun n => L15a L
theorem I15_0 (L : List Int) : I15 L 0 = L15a L := rfl
theorem st15 {L : List Int} {A B : Ln} {V : List (List Int)} {t : Int} {k : Nat} (hA : OkL A) (hB : OkL B) (hV : OkW V) (ht : 0 ≤ t) (h0 : 0 < k) (hk : V.length + (k - 1) ≤ 256) :
    ∃ j : K15a L, (AV.int .i64 (IntKind.i64.wrap ((k : Int) - 1)) = AV.int .i64 (j.k : Int) ∧ AV.int .i64 t = AV.int .i64 j.at_ ∧
      (AV.lst [AV.int .u8 0] (u8s A.w) = AV.lst [AV.int .u8 0] (u8s j.a.w) ∧ AV.bool A.wi = AV.bool j.a.wi ∧ AV.lst [AV.int .u8 0] (u8s A.s) = AV.lst [AV.int .u8 0] (u8s j.a.s) ∧ AV.bool A.sb = AV.bool j.a.sb ∧ AV.bool A.bu = AV.bool j.a.bu ∧
        AV.int .i64 A.sq = AV.int .i64 j.a.sq ∧ AV.int .i64 A.rc = AV.int .i64 j.a.rc ∧ AV.int .i64 A.ro = AV.int .i64 j.a.ro ∧ AV.int .i64 A.ak = AV.int .i64 j.a.ak ∧ AV.int .i64 A.ct = AV.int .i64 j.a.ct) ∧
      (AV.lst [AV.int .u8 0] (u8s B.w) = AV.lst [AV.int .u8 0] (u8s j.b.w) ∧ AV.bool B.wi = AV.bool j.b.wi ∧ AV.lst [AV.int .u8 0] (u8s B.s) = AV.lst [AV.int .u8 0] (u8s j.b.s) ∧ AV.bool B.sb = AV.bool j.b.sb ∧ AV.bool B.bu = AV.bool j.b.bu ∧
        AV.int .i64 B.sq = AV.int .i64 j.b.sq ∧ AV.int .i64 B.rc = AV.int .i64 j.b.rc ∧ AV.int .i64 B.ro = AV.int .i64 j.b.ro ∧ AV.int .i64 B.ak = AV.int .i64 j.b.ak ∧ AV.int .i64 B.ct = AV.int .i64 j.b.ct) ∧ wrs V = wrs j.W) ∧ j.k < k :=
  ⟨⟨A, B, V, t, k - 1, hA, hB, hV, ht, hk⟩, ⟨AV.int_inj' (by rw [wr_in _ (by have := hk; omega) (by omega)]; dsimp only; omega), rfl, ⟨rfl, rfl, rfl, rfl, rfl, rfl, rfl, rfl, rfl, rfl⟩, ⟨rfl, rfl, rfl, rfl, rfl, rfl, rfl, rfl, rfl, rfl⟩, rfl⟩, by dsimp only; omega⟩
set_option maxHeartbeats 4000000 in
theorem walk15 {Phi : Nat → Option Ctr} (P37 : Phi 37 = some DNw) (P20 : Phi 20 = some DNe) (P17 : Phi 17 = some DBy) (P22 : Phi 22 = some DWr) (P30 : Phi 30 = some DBr) (P24 : Phi 24 = some DPo) (P28 : Phi 28 = some DRe) (P31 : Phi 31 = some DGr) (L : List Int) (a n : Int) (hl : L.length ≤ 100000) (ha : 0 ≤ a) (hn : 0 ≤ n ∧ n ≤ 200) (hL : Okb L) : evC Phi (I15 L) rc15 ⟨initS (.ptr 0 0 :: [.int .i64 n]), initM true [.lst [.int .u8 0] (u8s L), .int .i64 a]⟩ (kRetX rv15 true (fun q : Ln × Ln × List (List Int) × Int => ((OkL q.1 ∧ OkL q.2.1) ∧ (OkW q.2.2.1 ∧ q.2.2.1.length ≤ 256) ∧ 0 ≤ q.2.2.2, .tup [q.1.av, q.2.1.av, .lst [.nil] (wrs q.2.2.1)], [.lst [.int .u8 0] (u8s L), .int .i64 q.2.2.2]))) := by
  simp (config := {maxSteps := 2000000}) only [rc15, initM_t, rv15, Ln.av, evC_seq, evC_region, eo_alloc, evG_no, Option.getD_some, ev_alloc, Nat.reduceMul, Nat.reduceAdd, goOp_some, put_n, killB_cells, List.map_cons, kill0_nil, kill0_bool, kill0_int, List.map_nil, eo_mov, ev_mov, av_c, gv_nil, bind1_some', un1_mov, put_q, evOps_nil, kEnd_at, hasG_no, hasG_nil, kEndB_f, kSeq_n, eo_call, P37, DNw, evCl_mk, ev_call, avs_nil, clE_some, callE_pure, lends_nil, callN_some, callP_some, List.nil_append, c2_agg, List.all_cons, c0_lst, c0_bool, c0_int, List.all_nil, Bool.and_self, flat2_agg, flat0_lst, flat0_bool, flat0_int, Bool.and_true, Bool.true_and, backOK_nil, clQ_t, eo_store, ar_t, upd_at, Nat.reduceEqDiff, ↓reduceIte, killS_at, kill3_agg, kill0_lst, kill3_ptr, vwsT_ptr, frzL_nil, goF_eq, Option.getD_none, ev_store, av_t, gv_ptr, gv_agg, bind2_some', store_ptr, cells_agg, List.length_cons, List.length_nil, Nat.zero_add, updM_at, killM_at, killO_some, stB_cells, Nat.reduceLeDiff, decide_true, stC_true, setC_cons, List.set_cons_zero, List.set_cons_succ, setC_nil, put_s, liveB_cells, initS_at, List.getD_cons_zero, P20, DNe, avs_cons, gv_int, consO_some, callE_state, callC_cells, lends_cons, lend1_int, consL_some', callB_some, decU_u8s, and_self, u8s_len, true_and, Int.reduceLE, and_true, callD_t, callS_some, c2_int, flat2_int, clU_t, put_u, eo_faddr, ev_faddr, faddr_ptr, cells_int, List.getD_cons_succ, kill3_int, eo_arith, ev_arith, arith_add, evC_block, evC_loop, I15_0, L15aS, S15a, SL_ge, lkL_cons, lkS_ptr, lkS_nil_vw, lookM_cons, nlK_buf, lkS_int, lkL_nil, List.cons_append, lkM_cons, lkB_cells, lkC_cons, lkC0_lst, lkC0_int, lkC_nil, lkC0_nil_nil, lkC0_bool, killO_none, lkB_buf, lkM_nil, applyL_nls, nlV_nil, Nat.reduceLT, nlP_t, applyL_nil, SL_ge0, leL_cons, leV1_ptr, leV1_vw, leV1_int, leL_nil, leM_cons, leB_cells, leAs_cons, leA_lst, leA_int, leAs_nil, leA_nilnil, leA_bool, leB_buf, leM_nil, L15aR, SL_st, lookL_cons, eo_cmp, ev_cmp, cmp2_some, cmp_gtr, toR_some', evC_cond, evC_skip, cmp_eql, gv_bool, evC_draw, preK_some, needD_load, preB_f, needD_mov, needD_call, preB_t, needD_extract, preK_none, preK_nil, evD_cons, ev_load, load_ptr, ldB_cells, valOf_agg, valB_true, List.drop_zero, List.take_succ_cons, List.take_zero, ldV_some, evDk_some, newOK_none, P17, DBy, c2_lst, flat2_lst, P22, DWr, gv_lst, lend1_agg, lendC_cons, lendA_lst, lendA_bool, lendA_int, lendC_nil, aggL_some, lend1_lst, Ln.eta, c2_tup, c1_agg, c1_int, flat2_tup, flat1_agg, flat1_int, gv_tup, ev_extract, un1_extract, List.getElem?_cons_zero, List.getElem?_cons_succ, evD_nil, kBlk_n, arith_sub, kLoop_n, kill3_vw, lkS_vw_vw, beq_self_eq_true, renK_t, killB_buf, knowL_nil, askL_nil, knowD_cons, knowD_nil, pairD_cons, pairOK_eq, newMen_none, List.contains_cons, Nat.reduceBEq, List.contains_nil, Bool.or_false, pairB_f, chkR_eq, pslots_junk, optN_some, disjN_nil, pslots_int, optN_none, newI_none, disjN_cons, Bool.not_false, Bool.or_true, pairB_t, pairD_nil, pslots_agg, askL_cons, pslots_lst, pslots_ptr, eo_load, P30, DBr, P24, DPo, c1_lst, c1_bool, flat1_lst, flat1_bool, eo_extract, kill3_lst, kill3_bool, gv_vw, eo_bsliceO, vwsG_cons, vws1_lst, vwsG_nil, ev_bsliceO, List.replicate_succ, List.replicate_zero, fillS_cons, fsK_some, cells_lst, fsC_some, fillS_nil, blO2_some, eo_append, ev_append, appR_vw, ysOf_vw, ysV_buf, appV_buf, appK_some, wrs_len, wrs_snoc, P28, DRe, condK_bool, P31, DGr, evC_exit, kSeq_e, kLoop_e, kBlk_e, kBlkB_t, evC_ret, kRetX_r, retXG_eq, retX_eq, retL_cons, retV_c, rvP_ptr, rvB_cells, retV_t, retL_nil, lkR_two, lkVs_cons, lk1_agg, lkAs_cons, lk0_lst, lk0_bool, lk0_int, lkAs_nil, lk1_vw_lst, lkVs_nil, lkT_t, applyL_frz, frzQ_buf, frzP_t, retX0_eq, frzSl_at, frz3_ptr, frzM_at, frzO_some, frzB_cells, frz0_lst, frz0_bool, frz0_int, frz3_vw, resXO_some, resX_two, leXV_cons, leX1_agg, leXs_cons, leX0_lst, leX0_bool, leX0_int, leXs_nil, leX1_lst, leXV_nil, pqR_two, pqV_cons, pq1_agg, pqL_cons, pq0_lst, pq0_bool, pq0_int, pqL_nil, pq1_lst, pqV_nil, pqK_nil, nodupN_nil, frs2_tup, frsV_cons, frs1_agg, frsL_cons, frs0_lst, frs0_bool, frs0_int, frsL_nil, frs1_lst, frsV_nil, idsOK_eq, wfRes_two, wfX2_tup, wfX1_agg, wfX0_lst, wfX0_bool, wfX0_int, wfX1_lst, resXT_t, pslots_vw, true_imp_iff]
  have v80 := cn_bd hL (a := a) (n := 80) (by omega)
  have vn := cn_bd hL (a := cnA L a 80) (n := n + 1) (by omega)
  rw [wr_in (n + 1) (by omega) (by omega)]
  refine ⟨⟨hl, ha, hL⟩, ⟨hl, ⟨cnA_nn ha _, by omega⟩, hL⟩, ⟨{ l0 with ro := 1024 }, { l0 with ro := cnV L a 80 }, [], cnA L (cnA L a 80) (n + 1), (cnV L (cnA L a 80) (n + 1)).toNat, .new (by decide), .new (by omega), fun p hp => (by cases hp), cnA_nn (cnA_nn ha _) _, by simp only [List.length_nil]; omega⟩, ⟨AV.int_inj' (by dsimp only; omega), rfl, ⟨rfl, rfl, rfl, rfl, rfl, rfl, rfl, rfl, rfl, rfl⟩, ⟨rfl, rfl, rfl, rfl, rfl, rfl, rfl, rfl, rfl, rfl⟩, rfl⟩, ?_⟩
  rintro ⟨a2, b2, W2, t2, k, hA, hB, hW, ht, hk⟩
  dsimp only
  have hA1 := hA.bd
  have hB1 := hB.bd
  refine ⟨fun hc => ?_, fun hc => ?_⟩
  · have hc := of_decide_eq_true hc
    have hy := byV_len hL (a := cnA L t2 6) (n := 90) (by omega)
    have hp1 := hA.pb
    have hp2 := hB.pb
    repeat' first
      | exact hL
      | exact hp1.1
      | exact hp2.1
      | (refine st15 ?_ ?_ ?_ ?_ (by omega) (by first | omega | (simp only [List.length_append, List.length_cons, List.length_nil]; omega)) <;> first
          | exact hA | exact hB | exact hW | exact ht
          | exact hA.wr (byV_ok hL _ _) | exact hA.br | exact hA.po | exact hB.po | exact hB.re _ | exact hA.re _ | exact hB.gr _
          | exact hW.snoc (hA.pq (by assumption)) | exact hW.snoc (hB.pq (by assumption))
          | exact cnA_nn ht _ | exact byA_nn (cnA_nn ht _) | exact cnA_nn (cnA_nn ht _) _)
      | apply And.intro
      | intro _
    all_goals first | omega | exact cnA_nn ht _
  · have hc := of_decide_eq_false hc
    exact ⟨(a2, b2, W2, t2), ⟨⟨hA, hB⟩, ⟨hW, by dsimp only; omega⟩, ht⟩, ⟨⟨rfl, rfl, rfl, rfl, rfl, rfl, rfl, rfl, rfl, rfl⟩, ⟨rfl, rfl, rfl, rfl, rfl, rfl, rfl, rfl, rfl, rfl⟩, rfl⟩, rfl⟩
end Go.Proofs.Ytknapnleecepaaa
