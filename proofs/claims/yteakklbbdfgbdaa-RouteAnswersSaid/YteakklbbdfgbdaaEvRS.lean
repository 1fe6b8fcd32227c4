/- A part of the proof: symbolic evaluation of the program's functions, proved sound against the model; no condition. -/
import Derived.Test.YteakklbbdfgbdaaEvRJ
import Derived.Test.YteakklbbdfgbdaaEvRR
namespace Go.Proofs.Yteakklbbdfgbdaa
open Go Go.RowKit Go.Ev
set_option linter.unusedSimpArgs false
set_option linter.unusedVariables false
set_option maxRecDepth 20000
structure K11a (L : List Int) where
  N : Int
  bs : List Br
  a : Int
  k : Int
  hN : 1 ≤ N ∧ N ≤ 16
  hb : bs.length + k ≤ 10
  hk : 0 ≤ k
  ha : 0 ≤ a
def S11a (L : List Int) (p : K11a L) : SL := ⟨[(0, .ptr 0 0), (2, .ptr 192 0), (3, .ptr 256 0), (4, .int .i64 p.k)], [(0, .cells [.lst [.int .u8 0] (u8s L), .int .i64 p.a]), (192, .cells [.int .i64 0, .nil, .nil]), (256, .cells [.int .i64 p.N, .vw 3200 0 0 0, .nil]), (3200, .buf 45 [.int .u8 0, .int .i64 0, .int .i64 0] (brs p.bs))]⟩
abbrev L11a (L : List Int) : LI := ⟨K11a L, S11a L, fun p => p.k.toNat, fun p q => True⟩
theorem L11aS (L : List Int) : (L11a L).S = S11a L := rfl
theorem L11aM (L : List Int) (p : K11a L) : (L11a L).μ p = p.k.toNat := rfl
theorem L11aR (L : List Int) (p q : K11a L) : (L11a L).R p q = (True) := rfl
structure K11b (L : List Int) where
  N : Int
  bs : List Br
  a : Int
  k : Nat
  l : Int
  hN : 1 ≤ N ∧ N ≤ 16
  hb : bs.length = k
  hk : (k : Int) ≤ l ∧ l ≤ 14
  ha : 0 ≤ a
def S11b (L : List Int) (p : K11b L) : SL := ⟨[(0, .ptr 0 0), (2, .ptr 192 0), (3, .ptr 256 0), (5, .int .i64 p.k), (6, .int .i64 p.l)], [(0, .cells [.lst [.int .u8 0] (u8s L), .int .i64 p.a]), (192, .cells [.int .i64 0, .nil, .nil]), (256, .cells [.int .i64 p.N, .vw 3200 0 0 0, .nil]), (3200, .buf 45 [.int .u8 0, .int .i64 0, .int .i64 0] (brs p.bs))]⟩
abbrev L11b (L : List Int) : LI := ⟨K11b L, S11b L, fun p => (p.l - p.k).toNat, fun p q => True⟩
theorem L11bS (L : List Int) : (L11b L).S = S11b L := rfl
theorem L11bM (L : List Int) (p : K11b L) : (L11b L).μ p = (p.l - p.k).toNat := rfl
theorem L11bR (L : List Int) (p q : K11b L) : (L11b L).R p q = (True) := rfl
structure K11c (L : List Int) where
  N : Int
  bs : List Br
  es : List Ep
  a : Int
  k : Int
  hN : 1 ≤ N ∧ N ≤ 16
  hb : bs.length ≤ 30
  he : es.length + k ≤ 10
  hk : 0 ≤ k
  ha : 0 ≤ a
def S11c (L : List Int) (p : K11c L) : SL := ⟨[(0, .ptr 0 0), (2, .ptr 192 0), (3, .ptr 256 0), (7, .int .i64 p.k)], [(0, .cells [.lst [.int .u8 0] (u8s L), .int .i64 p.a]), (192, .cells [.int .i64 0, .nil, .nil]), (256, .cells [.int .i64 p.N, .vw 3200 0 0 0, .vw 3264 0 0 0]), (3200, .buf 45 [.int .u8 0, .int .i64 0, .int .i64 0] (brs p.bs)), (3264, .buf 50 [.int .u8 0, .int .u8 0, .int .i64 0] (eps p.es))]⟩
abbrev L11c (L : List Int) : LI := ⟨K11c L, S11c L, fun p => p.k.toNat, fun p q => True⟩
theorem L11cS (L : List Int) : (L11c L).S = S11c L := rfl
theorem L11cM (L : List Int) (p : K11c L) : (L11c L).μ p = p.k.toNat := rfl
theorem L11cR (L : List Int) (p q : K11c L) : (L11c L).R p q = (True) := rfl
structure K11d (L : List Int) where
  N : Int
  bs : List Br
  es : List Ep
  a : Int
  i : Nat
  hN : 1 ≤ N ∧ N ≤ 16
  hb : bs.length ≤ 30
  he : es.length ≤ 30
  hi : i ≤ bs.length
  ha : 0 ≤ a
def S11d (L : List Int) (p : K11d L) : SL := ⟨[(0, .ptr 0 0), (2, .ptr 192 0), (3, .ptr 256 0), (8, .int .i64 p.i)], [(0, .cells [.lst [.int .u8 0] (u8s L), .int .i64 p.a]), (192, .cells [.int .i64 0, .nil, .nil]), (256, .cells [.int .i64 p.N, .vw 3200 0 0 0, .vw 3264 0 0 0]), (3200, .buf 45 [.int .u8 0, .int .i64 0, .int .i64 0] (brs p.bs)), (3264, .buf 50 [.int .u8 0, .int .u8 0, .int .i64 0] (eps p.es))]⟩
abbrev L11d (L : List Int) : LI := ⟨K11d L, S11d L, fun p => p.bs.length - p.i, fun p q => True⟩
theorem L11dS (L : List Int) : (L11d L).S = S11d L := rfl
theorem L11dM (L : List Int) (p : K11d L) : (L11d L).μ p = p.bs.length - p.i := rfl
theorem L11dR (L : List Int) (p q : K11d L) : (L11d L).R p q = (True) := rfl
structure K11e (L : List Int) where
  N : Int
  a : Int
  hN : 1 ≤ N ∧ N ≤ 16
  ha : 0 ≤ a
def S11e (L : List Int) (p : K11e L) : SL := ⟨[(0, .ptr 0 0), (2, .ptr 192 0), (3, .ptr 256 0)], [(0, .cells [.lst [.int .u8 0] (u8s L), .int .i64 p.a]), (192, .cells [.int .i64 0, .nil, .nil]), (256, .cells [.int .i64 p.N, .nil, .nil])]⟩
abbrev L11e (L : List Int) : LI := ⟨K11e L, S11e L, fun p => 0, fun p q => True⟩
theorem L11eS (L : List Int) : (L11e L).S = S11e L := rfl
theorem L11eM (L : List Int) (p : K11e L) : (L11e L).μ p = 0 := rfl
theorem L11eR (L : List Int) (p q : K11e L) : (L11e L).R p q = (True) := rfl
structure K11f (L : List Int) where
  N : Int
  bs : List Br
  a : Int
  hN : 1 ≤ N ∧ N ≤ 16
  hb : bs.length ≤ 30
  ha : 0 ≤ a
def S11f (L : List Int) (p : K11f L) : SL := ⟨[(0, .ptr 0 0), (2, .ptr 192 0), (3, .ptr 256 0)], [(0, .cells [.lst [.int .u8 0] (u8s L), .int .i64 p.a]), (192, .cells [.int .i64 0, .nil, .nil]), (256, .cells [.int .i64 p.N, .vw 3200 0 0 0, .nil]), (3200, .buf 45 [.int .u8 0, .int .i64 0, .int .i64 0] (brs p.bs))]⟩
abbrev L11f (L : List Int) : LI := ⟨K11f L, S11f L, fun p => 0, fun p q => True⟩
theorem L11fS (L : List Int) : (L11f L).S = S11f L := rfl
theorem L11fM (L : List Int) (p : K11f L) : (L11f L).μ p = 0 := rfl
theorem L11fR (L : List Int) (p q : K11f L) : (L11f L).R p q = (True) := rfl
def I11 (L : List Int) : Nat → LI := fun n => if n = 0 then L11a L else if n = 1 then L11b L else if n = 2 then L11c L else if n = 3 then L11d L else if n = 4 then L11e L else L11f L
theorem I11_0 (L : List Int) : I11 L 0 = L11a L := rfl
theorem I11_1 (L : List Int) : I11 L 1 = L11b L := rfl
theorem I11_2 (L : List Int) : I11 L 2 = L11c L := rfl
theorem I11_3 (L : List Int) : I11 L 3 = L11d L := rfl
theorem I11_4 (L : List Int) : I11 L 4 = L11e L := rfl
theorem I11_5 (L : List Int) : I11 L 5 = L11f L := rfl
set_option maxHeartbeats 4000000 in
theorem walk11 {Phi : Nat → Option Ctr} (P13 : Phi 13 = some DNe) (L : List Int) (a : Int) (hl : L.length ≤ 100000) (ha : 0 ≤ a) (hL : Okb L) : evC Phi (I11 L) rc11 ⟨initS (.ptr 0 0 :: []), initM true [.lst [.int .u8 0] (u8s L), .int .i64 a]⟩ (kRetX rv11 true (fun q : Nt × Int => (WfN q.1 ∧ 0 ≤ q.2, q.1.av, [.lst [.int .u8 0] (u8s L), .int .i64 q.2]))) := by
  simp (config := {maxSteps := 2000000, contextual := true}) only [rc11, initM_t, rv11, Nt.av, evC_seq, evC_region, eo_alloc, evG_no, Option.getD_some, ev_alloc, Nat.reduceMul, Nat.reduceAdd, goOp_some, put_n, killB_cells, List.map_cons, kill0_int, kill0_nil, List.map_nil, evOps_nil, kEnd_at, hasG_no, hasG_nil, kEndB_f, kSeq_n, eo_mov, ev_mov, av_t, upd_at, Nat.reduceEqDiff, ↓reduceIte, killS_at, initS_at, List.getD_cons_zero, kill3_ptr, gv_ptr, bind1_some', un1_mov, put_q, eo_call, P13, DNe, evCl_mk, ev_call, avs_cons, av_c, gv_int, avs_nil, consO_some, clE_some, callE_state, updM_at, killM_at, killO_some, kill0_lst, callC_cells, lends_cons, lend1_int, lends_nil, consL_some', List.nil_append, callB_some, List.all_cons, c0_lst, c0_int, List.all_nil, Bool.and_self, decU_u8s, and_self, u8s_len, true_and, Int.reduceLE, and_true, callD_t, callS_some, c2_int, flat2_int, flat0_lst, flat0_int, Bool.and_true, Bool.true_and, backOK_nil, clU_t, put_u, liveB_cells, eo_arith, ev_arith, bind2_some', arith_add, eo_build, ev_build, fillA_cons, faK_some, cells_int, faC_some, Nat.zero_add, List.length_cons, List.length_nil, Nat.reduceLeDiff, setC_cons, List.set_cons_zero, setC_nil, fillA_nil, blO_some, eo_store, ar_t, kill3_agg, vwsT_ptr, frzL_nil, goF_eq, Option.getD_none, ev_store, gv_agg, store_ptr, cells_agg, stB_cells, decide_true, stC_true, List.set_cons_succ, put_s, eo_cmp, ev_cmp, cmp2_some, cmp_eql, toR_some', evC_cond, eo_faddr, ev_faddr, faddr_ptr, Nat.add_zero, ar_c, evC_cut, I11_4, L11eS, S11e, SL_ge, lkL_cons, lkS_ptr, lkL_nil, lkM_cons, lkB_cells, lkC_cons, lkC0_lst, lkC0_int, lkC_nil, lkC0_nil_nil, lkM_nil, applyL_nil, SL_ge0, leL_cons, leV1_ptr, leL_nil, leM_cons, leB_cells, leAs_cons, leA_lst, leA_int, leAs_nil, leA_nilnil, leM_nil, L11eR, SL_st, lookL_cons, lookM_cons, evC_block, evC_loop, I11_0, L11aS, S11a, lkS_int, lkC0_nil_vw, nlKc_buf, List.cons_append, lookM_nil, lkB_buf, applyL_nlc, nlC1_cells, List.getElem?_cons_succ, List.getElem?_cons_zero, nlC2_nil, Nat.reduceLT, Nat.reduceBEq, Bool.not_false, nlR_t, kill3_int, leV1_int, leA_vw, leB_buf, L11aR, cmp_gtr, evC_skip, evC_draw, preK_some, needD_faddr, preB_f, needD_load, needD_mov, needD_arith, needD_conv, needD_call, preB_t, needD_build, needD_bslice, needD_appD, preK_none, preK_nil, evD_cons, evDk_some, newOK_none, ev_load, load_ptr, kill0_vw, ldB_cells, valOf_one, ldV_some, ev_conv, un1_conv, ev_bslice, List.replicate_succ, List.replicate_zero, fillS_cons, fsK_some, fsC_some, fillS_nil, blS_some, ev_appD, gv_vw, gv_lst, appDR_vw, ysOf_lst, killB_buf, appDV_buf, appDK_some, brs_len, brs_snoc, newOK_some, deadL_dead, deadL_nil, liveB_buf, put_nd, cells_vw, evD_nil, kBlk_n, arith_sub, kLoop_n, lkC0_vw_vw, renK_f, killO_none, applyL_ren, renQ_buf, renP_t, renSl_at, ren3_ptr, ren3_int, renM_at, renO_cells, ren0_lst, ren0_int, ren0_nil, ren0_vw, knowL_nil, askL_nil, knowD_cons, knowD_nil, pairD_cons, pairOK_eq, newMen_none, List.contains_cons, beq_self_eq_true, List.contains_nil, Bool.or_false, Bool.or_true, pairB_t, pairD_nil, newMen_some, noMen_eq, kill3_lst, noB_none, kill3_vw, askL_cons, pairB_f, chkR_eq, pslots_lst, optN_some, disjN_nil, pslots_vw, newI_none, pslots_ptr, pslots_agg, pslots_int, disjN_cons, evC_exit, kSeq_e, kLoop_e, kBlk_e, kBlkB_t, eo_load, gv_nil, cells_nil, I11_1, L11bS, S11b, L11bR, cmp_lss, eo_conv, eo_bsliceO, vwsG_cons, vws1_agg, vwsL_cons, vws0_int, vwsL_nil, vwsG_nil, ev_bsliceO, blO2_some, eo_append, ev_append, appQR_vw, ysOf_vw, ysV_buf, appC_buf, appV_buf, appK_some, renK_t, I11_5, L11fS, S11f, L11fR, I11_2, L11cS, S11c, L11cR, eps_len, eps_snoc, renO_buf, I11_3, L11dS, S11d, L11dR, eo_len, ev_len, len_vw, lenV_buf, needD_iaddrS, needD_cmp, needD_pick, ev_iaddrS, iaddrS_vw, iasV_buf, iasW_t, Int.toNat_natCast, gv_bp, faddr_bp, load_bp, ldP_buf, getE_br, ldQ_t, gv_bool, evG_yes, pathG_bool, gG_some, guardR_q, guardL_nil, gv_gd, gvB_true, guardR_u, pathB_cons, boolOf_bool, beqO_some, pathB_nil, mergeU_eq1, mgC_cells, mergeL_cons, mergeA_lst, Bool.cond_self, mergeA_int, mergeL_nil, mgU_some, guardU_some, guardL_cons, pathP_cons, pathP_nil, ev_pick, pick3_some, pickV_bool, Bool.cond_false_right, hasG_yes, kEndB_t, ungdS_at, ungd_ptr, ungd_int, arith_rem, store_bp, stP_buf, stQ_t, brs_set, knowL_cons, true_imp_iff, pslots_bp, ungd_bool, condK_bool, valOf_agg, valB_true, List.drop_zero, List.take_succ_cons, List.take_zero, evC_ret, kRetX_r, retXG_eq, retX_eq, retL_cons, retV_c, rvP_ptr, rvB_cells, retL_nil, lkR_one, lk1_agg, lkAs_cons, lk0_int, lk0_vw_lst, lkAs_nil, lkT_t, applyL_frz, frzQ_buf, frzP_t, frzM_at, frzO_some, frzB_buf, retX0_eq, frzSl_at, frz3_ptr, frzB_cells, frz0_int, frz0_vw, frz0_lst, resXO_some, resX_one, leX1_agg, leXs_cons, leX0_int, leX0_lst, leXs_nil, pqR_one, pq1_agg, pqL_cons, pq0_int, pq0_lst, pqL_nil, pqK_nil, nodupN_nil, frs2_agg, frsL_cons, frs0_int, frs0_lst, frsL_nil, idsOK_eq, wfRes_one, wfX1_agg, wfX0_int, wfX0_lst, resXT_t]
  generalize hH : (∀ i : K11e L, _) = H
  have key : H := by
    rw [← hH]
    clear hH
    rintro ⟨N, a, hN, ha⟩
    dsimp only
    have hk := cn_bd hL (a := a) (n := 10) (by omega)
    refine ⟨⟨hl, ha, hL⟩, ⟨N, [], cnA L a 10, cnV L a 10, hN, by rw [List.length_nil]; omega, hk.1, cnA_nn ha 10⟩, ⟨rfl, rfl, rfl, rfl⟩, ?_⟩
    clear hk
    rintro ⟨N, bs, a, k, hN, hb, hk, ha⟩
    dsimp only
    generalize hG : (∀ i : K11f L, _) = G
    have key : G := by
      rw [← hG]
      clear hG
      rintro ⟨N, bs, a, hN, hb, ha⟩
      dsimp only
      have hk := cn_bd hL (a := a) (n := 6) (by omega)
      refine ⟨⟨hl, ha, hL⟩, ⟨N, bs, [], cnA L a 6, cnV L a 6, hN, hb, by rw [List.length_nil]; omega, hk.1, cnA_nn ha 6⟩, ⟨rfl, rfl, rfl, rfl, rfl⟩, ?_⟩
      clear hk
      rintro ⟨N, bs, es, a, k, hN, hb, he, hk, ha⟩
      dsimp only
      refine ⟨fun hc => ?_, fun hc => ?_⟩
      · have hc := of_decide_eq_true hc
        refine ⟨⟨hl, ha, hL⟩, ⟨hl, ⟨cnA_nn ha 30, by omega⟩, hL⟩, by omega, by omega, ⟨N, bs, es ++ [⟨IntKind.u8.wrap k, IntKind.u8.wrap (IntKind.i64.wrap (40 + cnV L a 30)), cnV L (cnA L a 30) N⟩], cnA L (cnA L a 30) N, k - 1, hN, hb, by rw [List.length_append]; simp only [List.length_cons, List.length_nil]; omega, by omega, cnA_nn (cnA_nn ha 30) N⟩, ⟨AV.int_inj' (wr_in _ (by omega) (by omega)), rfl, rfl, rfl, rfl⟩, by dsimp only; omega⟩
      · refine ⟨⟨N, bs, es, a, 0, hN, hb, by omega, Nat.zero_le _, ha⟩, ⟨rfl, rfl, rfl, rfl, rfl⟩, ?_⟩
        rintro ⟨N, bs, es, a, i, hN, hb, he, hi, ha⟩
        dsimp only
        intro _
        refine ⟨fun hc => ?_, fun hc => ?_⟩
        · have hc := of_decide_eq_true hc
          generalize bs.getD i b0 = b
          have hA : 0 ≤ (bif decide (b.l = b.r) == true then cnA L a 8 else a) := by
            cases (decide (b.l = b.r) == true)
            · exact ha
            · exact cnA_nn ha 8
          refine ⟨⟨by omega, by omega⟩, by omega, ⟨by omega, by omega⟩, by omega, fun _ => ⟨hl, ha, hL⟩, fun _ => ⟨⟨by omega, by omega⟩, by omega, by omega, ⟨by omega, by omega⟩, by omega, ⟨N, bs.set i ⟨b.ad, b.l, (IntKind.i64.wrap (b.l + 1)).tmod N⟩, es, (bif decide (b.l = b.r) == true then cnA L a 8 else a), i + 1, hN, by rw [List.length_set]; exact hb, he, by rw [List.length_set]; omega, hA⟩, ⟨AV.int_inj' (wr_succ i (by omega)), rfl, rfl, rfl, rfl⟩, by dsimp only; rw [List.length_set]; omega⟩, fun _ => ⟨⟨N, bs, es, (bif decide (b.l = b.r) == true then cnA L a 8 else a), i + 1, hN, hb, he, by omega, hA⟩, ⟨AV.int_inj' (wr_succ i (by omega)), rfl, rfl, rfl, rfl⟩, by dsimp only; omega⟩⟩
        · exact ⟨(⟨N, bs, es⟩, a), ⟨⟨hN, hb, he⟩, ha⟩, ⟨rfl, rfl, rfl⟩, rfl⟩
    refine ⟨fun hc => ?_, fun hc => ⟨fun h16 => ⟨⟨hl, ha, hL⟩, ?_⟩, fun h16 => ⟨⟨N, bs, a, hN, by omega, ha⟩, ⟨rfl, rfl, rfl⟩, key⟩⟩⟩
    · have hc := of_decide_eq_true hc
      refine ⟨⟨hl, ⟨ha, by omega⟩, hL⟩, ⟨hl, ⟨cnA_nn ha N, by omega⟩, hL⟩, by omega, by omega, ⟨N, bs ++ [⟨IntKind.u8.wrap (IntKind.i64.wrap (16 + k)), cnV L a N, cnV L (cnA L a N) N⟩], cnA L (cnA L a N) N, k - 1, hN, by rw [List.length_append]; simp only [List.length_cons, List.length_nil]; omega, by omega, cnA_nn (cnA_nn ha N) N⟩, ⟨AV.int_inj' (wr_in _ (by omega) (by omega)), rfl, rfl, rfl⟩, by dsimp only; omega⟩
    · have h14 := cn_bd hL (a := a) (n := 14) (by omega)
      refine ⟨⟨N, [], cnA L a 14, 0, 1 + cnV L a 14, hN, rfl, ⟨by omega, by omega⟩, cnA_nn ha 14⟩, ⟨⟨rfl, AV.int_inj' (wr_in _ (by omega) (by omega))⟩, rfl, rfl, rfl⟩, ?_⟩
      clear h14
      rintro ⟨N, bs, a, k, l, hN, hb, hkl, ha⟩
      dsimp only
      refine ⟨fun hc => ?_, fun hc => ⟨⟨N, bs, a, hN, by omega, ha⟩, ⟨rfl, rfl, rfl⟩, key⟩⟩
      have hc := of_decide_eq_true hc
      refine ⟨by omega, by omega, ⟨N, bs ++ [⟨IntKind.u8.wrap (IntKind.i64.wrap (16 + (k : Int))), (k : Int), IntKind.i64.wrap ((k : Int) + 1)⟩], a, k + 1, l, hN, by rw [List.length_append]; simp only [List.length_cons, List.length_nil]; omega, ⟨by omega, by omega⟩, ha⟩, ⟨⟨AV.int_inj' (wr_succ k (by omega)), rfl⟩, rfl, rfl, rfl⟩, by dsimp only; omega⟩
  have h6 := cn_bd hL (a := a) (n := 6) (by omega)
  have hw : IntKind.i64.wrap (1 + cnV L a 6) = 1 + cnV L a 6 := wr_in _ (by omega) (by omega)
  have a2 := cnA_nn (cnA_nn ha (L := L) 6) (L := L) 8
  exact ⟨⟨hl, ha, hL⟩, ⟨hl, cnA_nn ha 6, hL⟩, fun _ => ⟨⟨16, cnA L (cnA L a 6) 8, by omega, a2⟩, ⟨rfl, rfl⟩, key⟩, fun _ => ⟨⟨1 + cnV L a 6, cnA L (cnA L a 6) 8, ⟨by omega, by omega⟩, a2⟩, ⟨rfl, by rw [hw]⟩, key⟩⟩
end Go.Proofs.Yteakklbbdfgbdaa
