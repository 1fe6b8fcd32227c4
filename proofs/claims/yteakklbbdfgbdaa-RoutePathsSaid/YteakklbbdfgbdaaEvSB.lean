/- A part of the proof: symbolic evaluation of the program's functions, proved sound against the model; no condition. -/
import Derived.Test.YteakklbbdfgbdaaEvRZ
namespace Go.Proofs.Yteakklbbdfgbdaa
open Go Go.RowKit Go.Ev
set_option linter.unusedSimpArgs false
set_option linter.unusedVariables false
set_option maxRecDepth 20000
structure D4 where
  c : C4
  j : Nat
  o : Int
  s : List Int
  hj : j < c.l.length
  h : At c (j + 1) o
  hs : ∀ z ∈ s, nat c.O o < nat c.O z
  hq : s.length = j + 1
structure K4a (L : List Int) where
  m : Nt
  a : Int
  i : Nat
  hv : vl m = 0
  ha : 0 ≤ a
  hi : i ≤ m.es.length
def S4a (L : List Int) (p : K4a L) : SL := ⟨[(3, .ptr 1536 0), (4, .ptr 320 0), (30, .lst [.int .u8 0, .int .u8 0, .int .i64 0] (eps p.m.es)), (31, .int .i64 p.m.es.length), (32, .int .i64 p.i)], [(1536, .cells [.lst [.int .u8 0] (u8s (L.take 120)), .int .i64 p.a]), (320, .cells [.int .i64 p.m.N, .lst [.int .u8 0, .int .i64 0, .int .i64 0] (brs p.m.bs), .lst [.int .u8 0, .int .u8 0, .int .i64 0] (eps p.m.es)])]⟩
abbrev L4a (L : List Int) : LI := ⟨K4a L, S4a L, fun p => p.m.es.length - p.i, fun p q => True⟩
theorem L4aS (L : List Int) : (L4a L).S = S4a L := rfl
theorem L4aM (L : List Int) (p : K4a L) : (L4a L).μ p = p.m.es.length - p.i := rfl
theorem L4aR (L : List Int) (p q : K4a L) : (L4a L).R p q = (True) := rfl
structure K4b (L : List Int) where
  c : C4
  j : Nat
  u : Int
  s : List Int
  hj : j ≤ c.l.length
  hq : s.length = j + 1
  h : nxE c.m c.u c.x.id = 0 → At c j u
  hs : ∀ z ∈ s, nat c.O u ≤ nat c.O z
def S4b (L : List Int) (p : K4b L) : SL := ⟨[(3, .ptr 1536 0), (4, .ptr 320 0), (30, .lst [.int .u8 0, .int .u8 0, .int .i64 0] (eps p.c.m.es)), (31, .int .i64 p.c.m.es.length), (32, .int .i64 p.c.i), (6, .ptr 448 0), (9, .int .i64 (nxE p.c.m p.c.u p.c.x.id)), (12, .vw 3200 0 0 0), (13, .int .i64 p.u), (72, .lst [.int .i64 0] (i64s p.c.l)), (73, .int .i64 p.c.l.length), (74, .int .i64 p.j)], [(1536, .cells [.lst [.int .u8 0] (u8s (L.take 120)), .int .i64 p.c.a]), (320, .cells [.int .i64 p.c.m.N, .lst [.int .u8 0, .int .i64 0, .int .i64 0] (brs p.c.m.bs), .lst [.int .u8 0, .int .u8 0, .int .i64 0] (eps p.c.m.es)]), (448, .cells [.int .u8 p.c.x.id, .int .u8 p.c.x.ad, .int .i64 p.c.x.bu]), (3200, .buf 3 [.int .i64 0] (i64s p.s))]⟩
abbrev L4b (L : List Int) : LI := ⟨K4b L, S4b L, fun p => p.c.l.length - p.j, fun p q => q.c = p.c⟩
theorem L4bS (L : List Int) : (L4b L).S = S4b L := rfl
theorem L4bM (L : List Int) (p : K4b L) : (L4b L).μ p = p.c.l.length - p.j := rfl
theorem L4bR (L : List Int) (p q : K4b L) : (L4b L).R p q = (q.c = p.c) := rfl
structure K4c (L : List Int) where
  d : D4
  k : Nat
  hk : k ≤ d.s.length
def S4c (L : List Int) (p : K4c L) : SL := ⟨[(3, .ptr 1536 0), (4, .ptr 320 0), (30, .lst [.int .u8 0, .int .u8 0, .int .i64 0] (eps p.d.c.m.es)), (31, .int .i64 p.d.c.m.es.length), (32, .int .i64 p.d.c.i), (6, .ptr 448 0), (9, .int .i64 (nxE p.d.c.m p.d.c.u p.d.c.x.id)), (12, .vw 3200 0 0 0), (16, .int .i64 p.d.o), (72, .lst [.int .i64 0] (i64s p.d.c.l)), (73, .int .i64 p.d.c.l.length), (74, .int .i64 p.d.j), (99, .vw 3200 0 0 0), (100, .int .i64 p.d.s.length), (101, .int .i64 p.k)], [(1536, .cells [.lst [.int .u8 0] (u8s (L.take 120)), .int .i64 p.d.c.a]), (320, .cells [.int .i64 p.d.c.m.N, .lst [.int .u8 0, .int .i64 0, .int .i64 0] (brs p.d.c.m.bs), .lst [.int .u8 0, .int .u8 0, .int .i64 0] (eps p.d.c.m.es)]), (448, .cells [.int .u8 p.d.c.x.id, .int .u8 p.d.c.x.ad, .int .i64 p.d.c.x.bu]), (3200, .buf 3 [.int .i64 0] (i64s p.d.s))]⟩
abbrev L4c (L : List Int) : LI := ⟨K4c L, S4c L, fun p => p.d.s.length - p.k, fun p q => q.d = p.d⟩
theorem L4cS (L : List Int) : (L4c L).S = S4c L := rfl
theorem L4cM (L : List Int) (p : K4c L) : (L4c L).μ p = p.d.s.length - p.k := rfl
theorem L4cR (L : List Int) (p q : K4c L) : (L4c L).R p q = (q.d = p.d) := rfl
def I4 (L : List Int) : Nat → LI := fun n => if n = 0 then L4a L else if n = 1 then L4b L else L4c L
theorem I4_0 (L : List Int) : I4 L 0 = L4a L := rfl
theorem I4_1 (L : List Int) : I4 L 1 = L4b L := rfl
theorem I4_2 (L : List Int) : I4 L 2 = L4c L := rfl
set_option maxHeartbeats 4000000 in
theorem walk4 {Phi : Nat → Option Ctr} (P9 : Phi 9 = some CAw) (P10 : Phi 10 = some DCo) (P11 : Phi 11 = some DNw) (P16 : Phi 16 = some CVl) (P13 : Phi 13 = some DNe) (P20 : Phi 20 = some CPt) (P14 : Phi 14 = some CDi) (P23 : Phi 23 = some CSd) (L : List Int) (hL : Okb L) : evC Phi (I4 L) rc4 ⟨initS [.lst [.int .u8 0] (u8s L)], initM false []⟩ (kRet rv4 (.bool true) false []) := by
  simp (config := {maxSteps := 2000000, contextual := true}) only [rc4, initM_f, rv4, evC_seq, evC_region, eo_mov, evG_no, Option.getD_some, ev_mov, av_c, gv_bool, bind1_some', un1_mov, goOp_some, put_q, evOps_nil, kEnd_at, hasG_no, hasG_nil, kEndB_f, kSeq_n, eo_call, P9, CAw, evCl_mk, ev_call, avs_nil, clE_some, callE_pure, lends_nil, callN_some, callP_some, List.nil_append, c2_bool, flat2_bool, backOK_nil, Bool.and_self, clQ_t, eo_not, ev_not, av_t, upd_at, ↓reduceIte, un1_not, Bool.not_true, evC_cond, evC_ret, kSeq_r, kRet_r, retOK_eq, retL_cons, retV_t, retL_nil, consO_some, lkR_one, lk1_bool, lkT_f, applyL_nil, retOK_f, rtO_some, resV_one, leV1_bool, and_true, knowL_nil, askL_nil, evC_skip, Nat.reduceEqDiff, initS_at, List.getD_cons_zero, gv_lst, P10, DCo, evCl_ext, avs_cons, gv_int, evXV_some, evX_f, lends_cons, lend1_lst, lend1_int, consL_some', evXA_some, decU_u8s, and_self, Int.reduceLE, Int.reduceToNat, evXN_some, evXP_eq, wfX2_fp, List.all_cons, c0_lst, c0_int, List.all_nil, frs2_fp, idsOK_eq, List.map_cons, List.map_nil, nodupN_cons, List.contains_nil, Bool.not_false, nodupN_nil, Nat.reduceLT, decide_true, flatX2_fp, flat0_lst, flat0_int, Bool.and_true, flatL_cells, flatL_nil, evOpsk_at, backX_nil, putX_eq, unfr2_fp, Nat.reduceMul, Nat.reduceAdd, Nat.add_zero, addF_cons, addF_nil, putY_eq, gv_ptr, P11, DNw, Nt.av, evX_t, updM_at, evXC_cells, evXB_some, u8s_len, true_and, evXM_some, evXS_eq, wfX2_agg, wfX0_int, wfX0_lst, frs2_agg, frsL_cons, frs0_int, frs0_lst, frsL_nil, flatX2_agg, flatX0_int, flatX0_lst, Bool.true_and, eo_alloc, ev_alloc, eo_store, setB_eq, unfr2_agg, unfr0_int, unfr0_lst, put_n, killB_cells, kill0_int, kill0_nil, ar_t, killS_at, kill3_agg, kill0_lst, vwsT_ptr, frzL_nil, goF_eq, Option.getD_none, ev_store, gv_agg, bind2_some', store_ptr, cells_agg, List.length_cons, List.length_nil, Nat.zero_add, stB_cells, Nat.reduceLeDiff, stC_true, setC_cons, List.set_cons_zero, List.set_cons_succ, setC_nil, put_s, liveB_cells, eo_load, ev_load, load_ptr, ldB_cells, valOf_agg, valB_true, List.drop_zero, List.take_succ_cons, List.take_zero, ldV_some, P16, CVl, lend1_agg, lendC_cons, lendA_int, lendA_lst, lendC_nil, aggL_some, decBr_brs, decEp_eps, Nt.eta, c2_int, flat2_int, eo_cmp, ev_cmp, cmp2_some, cmp_neq, toR_some', eo_faddr, ev_faddr, faddr_ptr, valOf_one, List.getElem?_cons_succ, List.getElem?_cons_zero, eo_len, ev_len, len_lst, eps_len, evC_block, evC_loop, I4_0, L4aS, S4a, SL_ge, lkL_cons, kill3_ptr, lkS_ptr, lkS_lst, lkS_int, lkL_nil, lkM_cons, killM_at, killO_some, lkB_cells, lkC_cons, lkC0_lst, lkC0_int, lkC_nil, lkM_nil, SL_ge0, leL_cons, leV1_ptr, leV1_lst, leV1_int, leL_nil, leM_cons, leB_cells, leAs_cons, leA_lst, leA_int, leAs_nil, leM_nil, L4aR, SL_st, lookL_cons, cmp_lss, eo_iaddrS, ev_iaddrS, iaddrS_lst, beq_self_eq_true, iasB_true, Int.toNat_natCast, gv_ep, load_ep, getE_ep, lookM_cons, P13, DNe, callE_state, callC_cells, callB_some, callD_t, callS_some, clU_t, put_u, P20, CPt, c2_tup, c1_lst, c1_int, flat2_tup, flat1_lst, flat1_int, gv_tup, eo_extract, ev_extract, un1_extract, P14, CDi, evG_yes, pathG_bool, gG_some, guardR_q, guardL_nil, gv_gd, List.contains_cons, Bool.or_false, gvB_true, cmp_eql, pathG_gd, List.cons_append, Bool.true_or, Bool.or_true, i64s_len, eo_pick, ev_pick, pick3_some, pickV_bool, Bool.cond_false_right, Bool.cond_true_left, hasG_yes, kEndB_t, kBlk_r, kLoop_r, ungdS_at, ungd_int, eo_bsliceO, vwsG_cons, vws1_int, vwsG_nil, ev_bsliceO, List.replicate_succ, List.replicate_zero, fillS_cons, fsK_some, cells_int, fsC_some, fillS_nil, blO2_some, killB_buf, kill3_int, gv_vw, ungd_lst, kill3_lst, I4_1, L4bS, S4b, ungd_ptr, lkS_vw_vw, Nat.reduceBEq, renK_f, lookM_nil, killO_none, lkB_buf, applyL_ren, renQ_buf, renP_t, renSl_at, ren3_ptr, ren3_lst, ren3_int, kill3_vw, ren3_vw, leV1_vw, renM_at, renO_cells, ren0_lst, ren0_int, leB_buf, L4bR, getE_i64, brs_len, cmp_geq, getE_br, P23, CSd, Br.eta, c1_bool, flat1_bool, ungd_vw, len_vw, lenV_buf, I4_2, L4cS, S4c, renK_t, L4cR, iaddrS_vw, iasV_buf, iasW_t, gv_bp, load_bp, ldP_buf, ldQ_t, kBlk_n, eo_arith, ev_arith, arith_add, kLoop_n, condK_bool, askL_cons, knowL_cons, evC_exit, kSeq_e, kLoop_e, kBlk_e, kBlkB_t, eo_append, ev_append, appQR_vw, ysOf_vw, ysV_buf, appC_buf, appV_buf, appK_some, i64s_snoc, ungd_bool, implies_true, true_imp_iff, Bool.false_eq_true, false_imp_iff]
  intro _
  have hl : (L.take 120).length ≤ 100000 := by rw [List.length_take]; omega
  have hO := hL.take 120
  generalize L.take 120 = M at *
  refine ⟨⟨hl, hO⟩, ?_⟩
  rintro ⟨m, a⟩ ⟨W, ha⟩ hv _
  dsimp only at *
  have hv : vl m = 0 := by simpa using hv
  refine ⟨⟨m, a, 0, hv, ha, Nat.zero_le _⟩, ⟨⟨rfl, rfl, rfl⟩, rfl, rfl, rfl, rfl⟩, ?_⟩
  rintro ⟨m, a, i, hv, ha, hi⟩
  dsimp only
  intro hc
  have hc := of_decide_eq_true hc
  have hilt : i < m.es.length := by omega
  have hN := (vl_ok hv).N
  have X := cn_bd hO (a := a) (n := m.N) (by omega)
  have a1 := cnA_nn ha (L := M) m.N
  refine ⟨⟨by omega, by omega⟩, fun _ => ⟨⟨hl, ⟨ha, by omega⟩, hO⟩, ?_⟩⟩
  obtain ⟨c, hcm, hci, hca, hcu⟩ : ∃ c : C4, c.m = m ∧ c.i = i ∧ c.a = cnA M a m.N ∧ c.u = cnV M a m.N := ⟨⟨m, cnA M a m.N, i, cnV M a m.N, hv, a1, hilt, X⟩, rfl, rfl, rfl, rfl⟩
  subst hcm hci
  rw [← hca, ← hcu]
  have hx : c.m.es.getD c.i e0 = c.x := rfl
  have hp : ptL c.m c.u c.x.id = c.l := rfl
  rw [hx, hp, c.dse c.hu, c.dsv c.hu]
  have key : (decide (nxE c.m c.u c.x.id = 0) && !decide ((c.l.length : Int) = if nxE c.m c.u c.x.id = 0 then nat c.O c.u else 0)) = false := by
    by_cases h : nxE c.m c.u c.x.id = 0
    · rw [if_pos h, c.len h, decide_eq_true h, decide_eq_true rfl]; rfl
    · rw [decide_eq_false h]; rfl
  rw [key]
  refine ⟨fun h => by simp at h, fun _ _ => ⟨⟨c, 0, c.u, [c.u], Nat.zero_le _, rfl, c.at0, fun z hz => ?_⟩, ⟨⟨rfl, rfl, rfl, rfl, rfl, rfl, rfl, rfl⟩, rfl, ⟨rfl, rfl, rfl⟩, ⟨rfl, rfl, rfl⟩, rfl⟩, ?_⟩⟩
  · have : z = c.u := by simpa using hz
    rw [this]
    exact Int.le_refl _
  rintro ⟨c2, j, u, s, hj, hq, h, hs⟩ q
  dsimp only at q ⊢
  subst q
  have hci := c2.hi
  refine ⟨fun hc => ?_, fun hc => ?_⟩
  · have hc := of_decide_eq_true hc
    have h0 : nxE c2.m c2.u c2.x.id = 0 := by
      by_cases hh : nxE c2.m c2.u c2.x.id = 0
      · exact hh
      · rw [c2.l0 hh, List.length_nil] at hc; omega
    have A := h h0
    have hlen := c2.len h0
    have hd := A.d
    have h7 : nat c2.O c2.u ≤ 7 := (nx_0 h0).2.2.2.2.2
    obtain ⟨b, b1, b2, b3, b4, b5, B, b6⟩ := A.next (by omega)
    rw [b4, Int.toNat_natCast, b5]
    have ho : ∀ z ∈ s, nat c2.O (sdV (c2.m.bs.getD b b0) u) < nat c2.O z := fun z hz => by have := hs z hz; omega
    generalize sdV (c2.m.bs.getD b b0) u = o at *
    refine ⟨⟨by omega, by omega⟩, fun _ => ⟨fun h => ?_, fun _ => ⟨⟨by omega, by omega⟩, fun _ => ⟨fun h => by simp at h, fun _ _ => ⟨⟨⟨c2, j, o, s, by omega, B, ho, hq⟩, 0, Nat.zero_le _⟩, ⟨⟨rfl, rfl, rfl, rfl, rfl, rfl, rfl, rfl, rfl, rfl⟩, rfl, ⟨rfl, rfl, rfl⟩, ⟨rfl, rfl, rfl⟩, rfl⟩, ?_⟩⟩⟩⟩⟩
    · simp only [Bool.or_eq_true, decide_eq_true_eq] at h; omega
    rintro ⟨d, k, hk⟩ q
    dsimp only at q ⊢
    subst q
    refine ⟨fun hc2 => ?_, fun hc2 => ?_⟩
    · have hc2 := of_decide_eq_true hc2
      refine ⟨⟨by omega, by omega⟩, fun _ => ⟨by omega, fun hh => ?_, fun _ => ⟨⟨⟨c2, j, o, s, by omega, B, ho, hq⟩, k + 1, by dsimp only; omega⟩, ⟨⟨rfl, rfl, rfl, rfl, rfl, rfl, rfl, rfl, rfl, AV.int_inj' (wr_succ k (by omega))⟩, rfl, ⟨rfl, rfl, rfl⟩, ⟨rfl, rfl, rfl⟩, rfl⟩, rfl, by dsimp only; omega⟩⟩⟩
      have hh := of_decide_eq_true hh
      have hm : s.getD k 0 ∈ s := by
        rw [List.getD_eq_getElem?_getD, List.getElem?_eq_getElem (show k < s.length by omega)]
        exact List.getElem_mem _
      have := ho _ hm
      rw [hh] at this
      omega
    · refine ⟨by omega, by omega, ⟨c2, j + 1, o, s ++ [o], by omega, by rw [List.length_append, hq]; rfl, fun _ => B, fun z hz => ?_⟩, ⟨⟨rfl, rfl, rfl, rfl, rfl, rfl, rfl, AV.int_inj' (wr_succ j (by omega))⟩, rfl, ⟨rfl, rfl, rfl⟩, ⟨rfl, rfl, rfl⟩, rfl⟩, rfl, by dsimp only; omega⟩
      rcases List.mem_append.1 hz with hz | hz
      · have := ho z hz; omega
      · have : z = o := by simpa using hz
        rw [this]; exact Int.le_refl _
  · have hc := of_decide_eq_false hc
    have key : (decide (nxE c2.m c2.u c2.x.id = 0) && !decide (u = c2.x.bu)) = false := by
      by_cases hh : nxE c2.m c2.u c2.x.id = 0
      · have A := h hh
        have hlen := c2.len hh
        have hd := A.d
        have hn := A.nn
        obtain ⟨f1, _⟩ := A.fin (by omega)
        rw [decide_eq_true f1, Bool.not_true, Bool.and_false]
      · rw [decide_eq_false hh]; rfl
    rw [key]
    exact ⟨fun h => by simp at h, fun _ => ⟨⟨c2.m, c2.a, c2.i + 1, c2.hv, c2.ha, hci⟩, ⟨⟨rfl, rfl, AV.int_inj' (wr_succ c2.i (by omega))⟩, rfl, rfl, rfl, rfl⟩, by dsimp only; omega⟩⟩
end Go.Proofs.Yteakklbbdfgbdaa
