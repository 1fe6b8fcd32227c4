/- A part of the proof: symbolic evaluation of the program's functions, proved sound against the model; no condition. -/
import Derived.Test.YteakklbbdfgbdaaEvRZ
namespace Go.Proofs.Yteakklbbdfgbdaa
open Go Go.RowKit Go.Ev
set_option linter.unusedSimpArgs false
set_option linter.unusedVariables false
set_option maxRecDepth 20000
structure K7a (L : List Int) where
  m : Nt
  a : Int
  i : Nat
  hv : vl m = 0
  ha : 0 ≤ a
  hi : i ≤ m.es.length
def S7a (L : List Int) (p : K7a L) : SL := ⟨[(3, .ptr 1280 0), (4, .ptr 320 0), (26, .lst [.int .u8 0, .int .u8 0, .int .i64 0] (eps p.m.es)), (27, .int .i64 p.m.es.length), (28, .int .i64 p.i)], [(1280, .cells [.lst [.int .u8 0] (u8s (L.take 120)), .int .i64 p.a]), (320, .cells [.int .i64 p.m.N, .lst [.int .u8 0, .int .i64 0, .int .i64 0] (brs p.m.bs), .lst [.int .u8 0, .int .u8 0, .int .i64 0] (eps p.m.es)])]⟩
abbrev L7a (L : List Int) : LI := ⟨K7a L, S7a L, fun p => p.m.es.length - p.i, fun p q => True⟩
theorem L7aS (L : List Int) : (L7a L).S = S7a L := rfl
theorem L7aM (L : List Int) (p : K7a L) : (L7a L).μ p = p.m.es.length - p.i := rfl
theorem L7aR (L : List Int) (p q : K7a L) : (L7a L).R p q = (True) := rfl
structure K7b (L : List Int) where
  c : C4
  j : Nat
  u : Int
  hj : j ≤ c.l.length
  h : At c j u
def S7b (L : List Int) (p : K7b L) : SL := ⟨[(3, .ptr 1280 0), (4, .ptr 320 0), (26, .lst [.int .u8 0, .int .u8 0, .int .i64 0] (eps p.c.m.es)), (27, .int .i64 p.c.m.es.length), (28, .int .i64 p.c.i), (6, .ptr 448 0), (7, .int .i64 p.u), (8, .lst [.int .i64 0] (i64s p.c.l)), (10, .int .i64 p.j)], [(1280, .cells [.lst [.int .u8 0] (u8s (L.take 120)), .int .i64 p.c.a]), (320, .cells [.int .i64 p.c.m.N, .lst [.int .u8 0, .int .i64 0, .int .i64 0] (brs p.c.m.bs), .lst [.int .u8 0, .int .u8 0, .int .i64 0] (eps p.c.m.es)]), (448, .cells [.int .u8 p.c.x.id, .int .u8 p.c.x.ad, .int .i64 p.c.x.bu])]⟩
abbrev L7b (L : List Int) : LI := ⟨K7b L, S7b L, fun p => p.c.l.length - p.j, fun p q => q.c = p.c⟩
theorem L7bS (L : List Int) : (L7b L).S = S7b L := rfl
theorem L7bM (L : List Int) (p : K7b L) : (L7b L).μ p = p.c.l.length - p.j := rfl
theorem L7bR (L : List Int) (p q : K7b L) : (L7b L).R p q = (q.c = p.c) := rfl
def I7 (L : List Int) : Nat → LI := fun n => if n = 0 then L7a L else L7b L
theorem I7_0 (L : List Int) : I7 L 0 = L7a L := rfl
theorem I7_1 (L : List Int) : I7 L 1 = L7b L := rfl
set_option maxHeartbeats 4000000 in
theorem walk7 {Phi : Nat → Option Ctr} (P9 : Phi 9 = some CAw) (P10 : Phi 10 = some DCo) (P11 : Phi 11 = some DNw) (P16 : Phi 16 = some CVl) (P13 : Phi 13 = some DNe) (P20 : Phi 20 = some CPt) (P18 : Phi 18 = some CNx) (P14 : Phi 14 = some CDi) (P23 : Phi 23 = some CSd) (L : List Int) (hL : Okb L) : evC Phi (I7 L) rc7 ⟨initS [.lst [.int .u8 0] (u8s L)], initM false []⟩ (kRet rv7 (.bool true) false []) := by
  simp (config := {maxSteps := 2000000, contextual := true}) only [rc7, initM_f, rv7, evC_seq, evC_region, eo_mov, evG_no, Option.getD_some, ev_mov, av_c, gv_bool, bind1_some', un1_mov, goOp_some, put_q, evOps_nil, kEnd_at, hasG_no, hasG_nil, kEndB_f, kSeq_n, eo_call, P9, CAw, evCl_mk, ev_call, avs_nil, clE_some, callE_pure, lends_nil, callN_some, callP_some, List.nil_append, c2_bool, flat2_bool, backOK_nil, Bool.and_self, clQ_t, eo_not, ev_not, av_t, upd_at, ↓reduceIte, un1_not, Bool.not_true, evC_cond, evC_ret, kSeq_r, kRet_r, retOK_eq, retL_cons, retV_t, retL_nil, consO_some, lkR_one, lk1_bool, lkT_f, applyL_nil, retOK_f, rtO_some, resV_one, leV1_bool, and_true, knowL_nil, askL_nil, evC_skip, Nat.reduceEqDiff, initS_at, List.getD_cons_zero, gv_lst, P10, DCo, evCl_ext, avs_cons, gv_int, evXV_some, evX_f, lends_cons, lend1_lst, lend1_int, consL_some', evXA_some, decU_u8s, and_self, Int.reduceLE, Int.reduceToNat, evXN_some, evXP_eq, wfX2_fp, List.all_cons, c0_lst, c0_int, List.all_nil, frs2_fp, idsOK_eq, List.map_cons, List.map_nil, nodupN_cons, List.contains_nil, Bool.not_false, nodupN_nil, Nat.reduceLT, decide_true, flatX2_fp, flat0_lst, flat0_int, Bool.and_true, flatL_cells, flatL_nil, evOpsk_at, backX_nil, putX_eq, unfr2_fp, Nat.reduceMul, Nat.reduceAdd, Nat.add_zero, addF_cons, addF_nil, putY_eq, gv_ptr, P11, DNw, Nt.av, evX_t, updM_at, evXC_cells, evXB_some, u8s_len, true_and, evXM_some, evXS_eq, wfX2_agg, wfX0_int, wfX0_lst, frs2_agg, frsL_cons, frs0_int, frs0_lst, frsL_nil, flatX2_agg, flatX0_int, flatX0_lst, Bool.true_and, eo_alloc, ev_alloc, eo_store, setB_eq, unfr2_agg, unfr0_int, unfr0_lst, put_n, killB_cells, kill0_int, kill0_nil, ar_t, killS_at, kill3_agg, kill0_lst, vwsT_ptr, frzL_nil, goF_eq, Option.getD_none, ev_store, gv_agg, bind2_some', store_ptr, cells_agg, List.length_cons, List.length_nil, Nat.zero_add, stB_cells, Nat.reduceLeDiff, stC_true, setC_cons, List.set_cons_zero, List.set_cons_succ, setC_nil, put_s, liveB_cells, eo_load, ev_load, load_ptr, ldB_cells, valOf_agg, valB_true, List.drop_zero, List.take_succ_cons, List.take_zero, ldV_some, P16, CVl, lend1_agg, lendC_cons, lendA_int, lendA_lst, lendC_nil, aggL_some, decBr_brs, decEp_eps, Nt.eta, c2_int, flat2_int, eo_cmp, ev_cmp, cmp2_some, cmp_neq, toR_some', eo_faddr, ev_faddr, faddr_ptr, valOf_one, List.getElem?_cons_succ, List.getElem?_cons_zero, eo_len, ev_len, len_lst, eps_len, evC_block, evC_loop, I7_0, L7aS, S7a, SL_ge, lkL_cons, kill3_ptr, lkS_ptr, lkS_lst, lkS_int, lkL_nil, lkM_cons, killM_at, killO_some, lkB_cells, lkC_cons, lkC0_lst, lkC0_int, lkC_nil, lkM_nil, SL_ge0, leL_cons, leV1_ptr, leV1_lst, leV1_int, leL_nil, leM_cons, leB_cells, leAs_cons, leA_lst, leA_int, leAs_nil, leM_nil, L7aR, SL_st, lookL_cons, cmp_lss, eo_iaddrS, ev_iaddrS, iaddrS_lst, beq_self_eq_true, iasB_true, Int.toNat_natCast, gv_ep, load_ep, getE_ep, lookM_cons, P13, DNe, callE_state, callC_cells, callB_some, callD_t, callS_some, clU_t, put_u, P20, CPt, c2_tup, c1_lst, c1_int, flat2_tup, flat1_lst, flat1_int, gv_tup, eo_extract, ev_extract, un1_extract, evC_exit, kSeq_e, kBlk_e, kBlkB_t, eo_arith, ev_arith, kill3_int, arith_add, kLoop_n, kill3_lst, I7_1, L7bS, S7b, L7bR, P18, CNx, P14, CDi, evG_yes, pathG_bool, gG_some, guardR_q, guardL_nil, gv_gd, List.contains_cons, Bool.or_false, gvB_true, eo_pick, ev_pick, pick3_some, pickV_bool, Bool.cond_true_left, i64s_len, arith_sub, hasG_yes, kEndB_t, kBlk_r, kLoop_r, ungdS_at, ungd_int, cmp_eql, ungd_ptr, Nat.reduceBEq, kBlkB_f, kLoop_e, kBlk_n, ungd_lst, ungd_bool, condK_bool, getE_i64, brs_len, guardL_cons, pathP_cons, boolOf_bool, pathP_nil, faddr_ep, getE_br, P23, CSd, Br.eta, c1_bool, flat1_bool, askL_cons, knowL_cons, implies_true, true_imp_iff, Bool.false_eq_true, false_imp_iff]
  intro _
  have hl : (L.take 120).length ≤ 100000 := by rw [List.length_take]; omega
  have hO := hL.take 120
  generalize L.take 120 = M at *
  refine ⟨⟨hl, hO⟩, ?_⟩
  rintro ⟨m, a⟩ ⟨W, ha⟩ hv _
  dsimp only at *
  have hv : vl m = 0 := by simpa using hv
  refine ⟨⟨m, a, 0, hv, ha, Nat.zero_le _⟩, ⟨⟨rfl, rfl, rfl⟩, rfl, rfl, rfl, rfl⟩, ?_⟩
  rintro ⟨m, a, i, hv, ha, hi⟩
  dsimp only
  intro hc
  have hc := of_decide_eq_true hc
  have hilt : i < m.es.length := by omega
  have hN := (vl_ok hv).N
  have X := cn_bd hO (a := a) (n := m.N) (by omega)
  have a1 := cnA_nn ha (L := M) m.N
  refine ⟨⟨by omega, by omega⟩, fun _ => ⟨⟨hl, ⟨ha, by omega⟩, hO⟩, fun h1 => ?_, fun h1 => ?_⟩⟩
  · exact ⟨⟨m, cnA M a m.N, i + 1, hv, a1, by omega⟩, ⟨⟨rfl, rfl, AV.int_inj' (wr_succ i (by omega))⟩, rfl, rfl, rfl, rfl⟩, by dsimp only; omega⟩
  obtain ⟨c, hcm, hci, hca, hcu⟩ : ∃ c : C4, c.m = m ∧ c.i = i ∧ c.a = cnA M a m.N ∧ c.u = cnV M a m.N := ⟨⟨m, cnA M a m.N, i, cnV M a m.N, hv, a1, hilt, X⟩, rfl, rfl, rfl, rfl⟩
  subst hcm hci
  rw [← hcu] at h1
  rw [← hca, ← hcu]
  have h1 : nxE c.m c.u c.x.id = 0 := of_decide_eq_true (by rw [Bool.not_eq_false'] at h1; exact h1)
  refine ⟨⟨c, 0, c.u, Nat.zero_le _, c.at0 h1⟩, ⟨⟨rfl, rfl, rfl, rfl, rfl, rfl⟩, rfl, ⟨rfl, rfl, rfl⟩, rfl, rfl, rfl⟩, ?_⟩
  rintro ⟨c2, j, u, hj, A⟩ q
  dsimp only at q ⊢
  subst q
  have hu := A.inn
  have e1 := A.e
  have e2 := c2.dse hu
  have e3 := c2.dsv hu
  rw [e1] at e2
  rw [if_pos e1] at e3
  have hlen := c2.len h1
  have hd := A.d
  have hn := A.nn
  have h7 : nat c2.O c2.u ≤ 7 := (nx_0 h1).2.2.2.2.2
  have hci := c2.hi
  have hw : IntKind.i64.wrap ((c2.l.length : Int) - (j : Int)) = nat c2.O u := by rw [wr_in _ (by omega) (by omega)]; omega
  rw [e1, e2, e3, hw]
  refine ⟨fun h => by simp at h, fun _ => ⟨fun h0 => ?_, fun h0 => ?_⟩⟩
  · have h0 := of_decide_eq_true h0
    obtain ⟨f1, f2, f3⟩ := A.fin h0
    rw [f2, f3, decide_eq_true f1]
    exact ⟨fun h => by simp at h, fun _ => ⟨⟨c2.m, c2.a, c2.i + 1, c2.hv, c2.ha, hci⟩, ⟨⟨rfl, rfl, AV.int_inj' (wr_succ c2.i (by omega))⟩, rfl, rfl, rfl, rfl⟩, by dsimp only; omega⟩⟩
  · have h0 := of_decide_eq_false h0
    obtain ⟨b, b1, b2, b3, b4, b5, B, b6⟩ := A.next h0
    rw [b2, b3, b4, Int.toNat_natCast]
    refine ⟨⟨by omega, by omega⟩, fun _ => ⟨fun _ => ⟨by omega, by omega⟩, fun h => by simp at h, fun _ => ⟨⟨by omega, by omega⟩, fun _ => ⟨⟨c2, j + 1, sdV (c2.m.bs.getD b b0) u, by omega, B⟩, ⟨⟨rfl, rfl, rfl, rfl, rfl, AV.int_inj' (wr_succ j (by omega))⟩, rfl, ⟨rfl, rfl, rfl⟩, rfl, rfl, rfl⟩, rfl, by dsimp only; omega⟩⟩⟩⟩
end Go.Proofs.Yteakklbbdfgbdaa
