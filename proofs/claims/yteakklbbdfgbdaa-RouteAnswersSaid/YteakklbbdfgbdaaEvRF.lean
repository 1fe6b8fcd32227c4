/- A part of the proof: symbolic evaluation of the program's functions, proved sound against the model; no condition. -/
import Derived.Test.YteakklbbdfgbdaaEvRE
namespace Go.Proofs.Yteakklbbdfgbdaa
open Go Go.RowKit Go.Ev
set_option linter.unusedSimpArgs false
set_option linter.unusedVariables false
set_option maxRecDepth 20000
structure K17a (m : Nt) where
  i : Nat
  hi : i ≤ m.es.length
  hn : vl m = epE m.N m.bs m.es (m.es.length - i) i
def S17a (m : Nt) (p : K17a m) : SL := ⟨[(1, .ptr 128 0), (4, .int .i64 p.i)], [(128, .cells [.int .i64 m.N, .lst [.int .u8 0, .int .i64 0, .int .i64 0] (brs m.bs), .lst [.int .u8 0, .int .u8 0, .int .i64 0] (eps m.es)])]⟩
abbrev L17a (m : Nt) : LI := ⟨K17a m, S17a m, fun p => m.es.length - p.i, fun p q => True⟩
theorem L17aS (m : Nt) : (L17a m).S = S17a m := rfl
theorem L17aM (m : Nt) (p : K17a m) : (L17a m).μ p = m.es.length - p.i := rfl
theorem L17aR (m : Nt) (p q : K17a m) : (L17a m).R p q = (True) := rfl
structure K17b (m : Nt) where
  i : Nat
  k : Nat
  b : Bool
  hi : i < m.es.length
  hk : k ≤ i
  hb : b = (bd0 m.bs (m.es.getD i e0) || (m.es.take k).any (pl1 (m.es.getD i e0)))
  hr : ¬ ((m.es.getD i e0).bu < 0 ∨ m.N ≤ (m.es.getD i e0).bu)
def S17b (m : Nt) (p : K17b m) : SL := ⟨[(1, .ptr 128 0), (4, .int .i64 p.i), (5, .ptr 384 0), (6, .bool p.b), (7, .int .i64 p.k)], [(128, .cells [.int .i64 m.N, .lst [.int .u8 0, .int .i64 0, .int .i64 0] (brs m.bs), .lst [.int .u8 0, .int .u8 0, .int .i64 0] (eps m.es)]), (384, .cells [.int .u8 (m.es.getD p.i e0).id, .int .u8 (m.es.getD p.i e0).ad, .int .i64 (m.es.getD p.i e0).bu])]⟩
abbrev L17b (m : Nt) : LI := ⟨K17b m, S17b m, fun p => p.i - p.k, fun p q => q.i = p.i⟩
theorem L17bS (m : Nt) : (L17b m).S = S17b m := rfl
theorem L17bM (m : Nt) (p : K17b m) : (L17b m).μ p = p.i - p.k := rfl
theorem L17bR (m : Nt) (p q : K17b m) : (L17b m).R p q = (q.i = p.i) := rfl
structure K17c (m : Nt) where
  i : Nat
  k : Nat
  hi : i < m.es.length
  hk : k ≤ i
  hb : (bd0 m.bs (m.es.getD i e0) || (m.es.take i).any (pl1 (m.es.getD i e0))) = false
  hr : ¬ ((m.es.getD i e0).bu < 0 ∨ m.N ≤ (m.es.getD i e0).bu)
  hd : (m.es.take k).any (fun y => decide (y.id = (m.es.getD i e0).id)) = false
def S17c (m : Nt) (p : K17c m) : SL := ⟨[(1, .ptr 128 0), (4, .int .i64 p.i), (5, .ptr 384 0), (8, .int .i64 p.k)], [(128, .cells [.int .i64 m.N, .lst [.int .u8 0, .int .i64 0, .int .i64 0] (brs m.bs), .lst [.int .u8 0, .int .u8 0, .int .i64 0] (eps m.es)]), (384, .cells [.int .u8 (m.es.getD p.i e0).id, .int .u8 (m.es.getD p.i e0).ad, .int .i64 (m.es.getD p.i e0).bu])]⟩
abbrev L17c (m : Nt) : LI := ⟨K17c m, S17c m, fun p => p.i - p.k, fun p q => q.i = p.i⟩
theorem L17cS (m : Nt) : (L17c m).S = S17c m := rfl
theorem L17cM (m : Nt) (p : K17c m) : (L17c m).μ p = p.i - p.k := rfl
theorem L17cR (m : Nt) (p q : K17c m) : (L17c m).R p q = (q.i = p.i) := rfl
def I17 (m : Nt) : Nat → LI := fun n => if n = 0 then L17a m else if n = 1 then L17b m else L17c m
theorem I17_0 (m : Nt) : I17 m 0 = L17a m := rfl
theorem I17_1 (m : Nt) : I17 m 1 = L17b m := rfl
theorem I17_2 (m : Nt) : I17 m 2 = L17c m := rfl
set_option maxHeartbeats 4000000 in
theorem walk17 {Phi : Nat → Option Ctr} (P31 : Phi 31 = some CBr) (P32 : Phi 32 = some CTk) (m : Nt) : evC Phi (I17 m) rc17 ⟨initS [m.av], initM false []⟩ (kRet rv17 (.int .i64 (vl m)) false []) := by
  simp (config := {maxSteps := 2000000, contextual := true}) only [rc17, Nt.av, initM_f, rv17, evC_seq, evC_region, eo_box, evG_no, Option.getD_some, ev_box, av_t, initS_at, List.getD_cons_zero, gv_agg, bind1_some', boxR_eq, cells_agg, List.length_cons, List.length_nil, Nat.zero_add, Nat.reduceAdd, ↓reduceIte, bxO_some, Nat.mul_one, goOp_some, put_n, killB_cells, List.map_cons, kill0_int, kill0_lst, List.map_nil, eo_mov, ev_mov, av_c, gv_int, un1_mov, put_q, evOps_nil, kEnd_at, hasG_no, hasG_nil, kEndB_f, kSeq_n, eo_faddr, ev_faddr, upd_at, Nat.reduceEqDiff, gv_ptr, faddr_ptr, Nat.add_zero, eo_load, ev_load, load_ptr, updM_at, ldB_cells, valOf_one, List.getElem?_cons_zero, ldV_some, eo_cmp, ev_cmp, cmp2_some, cmp_lss, toR_some', gv_bool, evG_yes, pathG_bool, gG_some, guardR_q, guardL_nil, gv_gd, List.contains_cons, List.contains_nil, Bool.or_false, List.all_cons, beq_self_eq_true, List.all_nil, Bool.and_self, gvB_true, cmp_gtr, eo_pick, ev_pick, List.nil_append, pick3_some, pickV_bool, Bool.cond_true_left, hasG_yes, kEndB_t, evC_cond, evC_ret, kSeq_r, kRet_r, retOK_eq, retL_cons, retV_t, retL_nil, consO_some, lkR_one, lk1_int, lkT_f, applyL_nil, retOK_f, rtO_some, resV_one, leV1_int, and_true, knowL_nil, askL_nil, evC_skip, ungdS_at, ungd_ptr, List.getElem?_cons_succ, eo_len, ev_len, gv_lst, len_lst, brs_len, eps_len, valOf_agg, Nat.reduceLeDiff, decide_true, valB_true, List.drop_zero, List.take_succ_cons, List.take_zero, eo_call, P31, CBr, evCl_mk, ev_call, avs_cons, avs_nil, clE_some, callE_pure, lends_cons, lend1_agg, lendC_cons, lendA_int, lendA_lst, lendC_nil, consL_some', aggL_some, lends_nil, callN_some, decBr_brs, and_self, decEp_eps, true_and, callP_some, c2_int, flat2_int, backOK_nil, clQ_t, cmp_neq, evC_block, evC_loop, I17_0, L17aS, S17a, SL_ge, lkL_cons, lkS_ptr, lkS_int, lkL_nil, lkM_cons, lkB_cells, lkC_cons, lkC0_int, lkC0_lst, lkC_nil, lkM_nil, SL_ge0, leL_cons, leV1_ptr, leL_nil, leM_cons, leB_cells, leAs_cons, leA_int, leA_lst, leAs_nil, leM_nil, L17aR, SL_st, lookL_cons, lookM_cons, eo_iaddrS, ev_iaddrS, bind2_some', iaddrS_lst, iasB_true, Int.toNat_natCast, gv_ep, load_ep, getE_ep, eo_alloc, ev_alloc, Nat.reduceMul, eo_store, ar_t, killS_at, kill3_agg, vwsT_ptr, frzL_nil, goF_eq, Option.getD_none, ev_store, store_ptr, stB_cells, stC_true, setC_cons, List.set_cons_zero, List.set_cons_succ, setC_nil, put_s, liveB_cells, kill3_ptr, killM_at, killO_some, cmp_geq, kBlk_r, kLoop_r, eo_call_g, P32, CTk, lend1_lst, lend1_int, c2_bool, flat2_bool, guardL_cons, pathP_cons, boolOf_bool, pathP_nil, I17_1, L17bS, S17b, kill3_int, ungd_int, ungd_bool, lkS_bool, leV1_bool, L17bR, evC_draw, preK_some, needD_mov, preB_f, needD_faddr, needD_load, needD_iaddrS, needD_cmp, needD_pick, preK_nil, evD_cons, evDk_some, newOK_none, faddr_ep, cmp_eql, pathG_gd, List.cons_append, Bool.true_or, Bool.or_true, boolOf_gd, Bool.cond_false_right, evD_nil, kBlk_n, eo_arith, ev_arith, arith_add, kLoop_n, knowD_cons, knowD_nil, pairD_cons, pairOK_eq, newMen_none, Nat.reduceBEq, pairB_t, pairD_nil, pairB_f, chkR_eq, pslots_gd, optN_some, disjN_cons, Bool.not_false, disjN_nil, newI_none, askL_cons, evC_exit, kSeq_e, kLoop_e, kBlk_e, kBlkB_t, I17_2, L17cS, S17c, L17cR, condK_bool, knowL_cons, pslots_int, pslots_ep, pslots_lst, pslots_ptr, true_imp_iff]
  refine ⟨fun h1 => ?_, fun h1 _ => ⟨fun h2 => ?_, fun h2 => ⟨?_, fun h3 => ?_, fun h3 => ?_⟩⟩⟩
  · have h : m.N < 1 ∨ 16 < m.N := by simpa only [Bool.or_eq_true, decide_eq_true_eq] using h1
    rw [vl, if_pos h]
  all_goals have n1 : ¬ (m.N < 1 ∨ 16 < m.N) := by simp only [Bool.or_eq_false_iff, decide_eq_false_iff_not] at h1; omega
  · have h : 16 < m.bs.length ∨ 32 < m.es.length := by simp only [Bool.or_eq_true, decide_eq_true_eq] at h2; omega
    rw [vl, if_neg n1, if_pos h]
  all_goals have n2 : ¬ (16 < m.bs.length ∨ 32 < m.es.length) := by simp only [Bool.or_eq_false_iff, decide_eq_false_iff_not] at h2; omega
  · omega
  · have h : brE m.N m.bs ≠ 0 := by simpa using h3
    rw [vl, if_neg n1, if_neg n2, if_pos h]
  have n3 : brE m.N m.bs = 0 := by simpa using h3
  have hv : vl m = epE m.N m.bs m.es m.es.length 0 := by rw [vl, if_neg n1, if_neg n2, if_neg (by rw [n3]; simp)]
  have F : ∀ {x : Ep}, (decide (x.bu < 0) || decide (m.N ≤ x.bu)) = false → ¬ (x.bu < 0 ∨ m.N ≤ x.bu) := fun h => by
    simp only [Bool.or_eq_false_iff, decide_eq_false_iff_not] at h
    omega
  have T : ∀ {x : Ep}, (decide (x.bu < 0) || decide (m.N ≤ x.bu)) = true → x.bu < 0 ∨ m.N ≤ x.bu := fun h => by
    simpa only [Bool.or_eq_true, decide_eq_true_eq] using h
  refine ⟨⟨0, Nat.zero_le _, hv⟩, rfl, ?_⟩
  rintro ⟨i, hi, hn⟩
  dsimp only
  intro _
  refine ⟨fun hc => ?_, fun hc => ?_⟩
  · have hc := of_decide_eq_true hc
    have hlt : i < m.es.length := by omega
    have hs : m.es.length - i = (m.es.length - (i + 1)) + 1 := by omega
    have hn2 := hn
    rw [hs] at hn2
    refine ⟨⟨by omega, by omega⟩, fun h4 => ?_, fun h4 => ⟨fun _ => by omega, ⟨i, 0, bd0 m.bs (m.es.getD i e0), hlt, Nat.zero_le _, by simp, F h4⟩, ⟨⟨rfl, rfl, rfl⟩, rfl, rfl, rfl⟩, ?_⟩⟩
    · rw [hn2, epE_stop (epE1_a (T h4)) (by decide)]
    rintro ⟨i', k, b, hi', hk, hb, hr⟩ e
    dsimp only at e ⊢
    have e := e.symm
    subst e
    refine ⟨fun h5 => ?_, fun h5 => ?_⟩
    · have h5 := of_decide_eq_true h5
      refine ⟨fun _ => ⟨by omega, by omega⟩, fun _ => ⟨by omega, by omega⟩, ⟨i, k + 1, (b || decide ((m.es.getD k e0).bu = (m.es.getD i e0).bu) && decide ((m.es.getD k e0).ad = (m.es.getD i e0).ad)), hlt, by omega, ?_, hr⟩, ⟨⟨rfl, rfl, AV.int_inj' (wr_succ k (by omega))⟩, rfl, rfl, rfl⟩, rfl, by dsimp only; omega⟩
      rw [any_take (pl1 _) m.es e0 (by omega), ← Bool.or_assoc, ← hb]; rfl
    · have h5 := of_decide_eq_false h5
      obtain rfl : k = i := by omega
      refine ⟨fun h6 => ?_, fun h6 => ?_⟩
      · rw [hn2, epE_stop (epE1_b hr (bd_t (hb.symm.trans h6))) (by decide)]
      · have hb' := hb.symm.trans h6
        refine ⟨⟨k, 0, hlt, Nat.zero_le _, hb', hr, by simp⟩, ⟨⟨rfl, rfl⟩, rfl, rfl, rfl⟩, ?_⟩
        rintro ⟨i2, k2, hi2, hk2, hb2, hr2, hd2⟩ e
        dsimp only at e ⊢
        have e := e.symm
        subst e
        refine ⟨fun h7 => ?_, fun h7 => ?_⟩
        · have h7 := of_decide_eq_true h7
          refine ⟨⟨by omega, by omega⟩, fun h8 => ?_, fun h8 => ⟨⟨k, k2 + 1, hlt, by omega, hb2, hr2, ?_⟩, ⟨⟨rfl, AV.int_inj' (wr_succ k2 (by omega))⟩, rfl, rfl, rfl⟩, rfl, by dsimp only; omega⟩⟩
          · have ha := any_pre (fun y : Ep => decide (y.id = (m.es.getD k e0).id)) (m.es.take k) k2 e0 (by rw [List.length_take]; omega) (by rw [take_getD m.es e0 (by omega)]; exact h8)
            rw [hn2, epE_stop (epE1_c hr2 (bd_f hb2) ha) (by decide)]
          · rw [any_take _ m.es e0 (by omega), hd2, h8]; rfl
        · have h7 := of_decide_eq_false h7
          obtain rfl : k2 = k := by omega
          exact ⟨⟨k2 + 1, by omega, hn2.trans (epE_next (epE1_0 hr2 (bd_f hb2) hd2))⟩, AV.int_inj' (wr_succ k2 (by omega)), by dsimp only; omega⟩
  · have hc := of_decide_eq_false hc
    rw [hn, show m.es.length - i = 0 by omega]; rfl
end Go.Proofs.Yteakklbbdfgbdaa
