/- A part of the proof: symbolic evaluation of the program's functions, proved sound against the model; no condition. -/
import Derived.Test.YteakklbbdfgbdaaEvRD
namespace Go.Proofs.Yteakklbbdfgbdaa
open Go Go.RowKit Go.Ev
set_option linter.unusedSimpArgs false
set_option linter.unusedVariables false
set_option maxRecDepth 20000
structure K20a (m : Nt) (u0 id : Int) where
  u : Int
  o : List Int
  h : (o = [] ∧ u = u0) ∨ (nxE m u id = 0 ∧ nxE m u0 id = 0 ∧ o ++ way m id (nat (nxO m id) u).toNat u = way m id (nat (nxO m id) u0).toNat u0 ∧ o.length + (nat (nxO m id) u).toNat ≤ 7)
def S20a (m : Nt) (u0 id : Int) (p : K20a m u0 id) : SL := ⟨[(1, .int .i64 p.u), (2, .int .u8 id), (3, .ptr 256 0), (8, .vw 3200 0 0 0)], [(256, .cells [.int .i64 m.N, .lst [.int .u8 0, .int .i64 0, .int .i64 0] (brs m.bs), .lst [.int .u8 0, .int .u8 0, .int .i64 0] (eps m.es)]), (3200, .buf 3 [.int .i64 0] (i64s p.o))]⟩
abbrev L20a (m : Nt) (u0 id : Int) : LI := ⟨K20a m u0 id, S20a m u0 id, fun p => (nat (nxO m id) p.u).toNat, fun p q => True⟩
theorem L20aS (m : Nt) (u0 id : Int) : (L20a m u0 id).S = S20a m u0 id := rfl
theorem L20aM (m : Nt) (u0 id : Int) (p : K20a m u0 id) : (L20a m u0 id).μ p = (nat (nxO m id) p.u).toNat := rfl
theorem L20aR (m : Nt) (u0 id : Int) (p q : K20a m u0 id) : (L20a m u0 id).R p q = (True) := rfl
def I20 (m : Nt) (u0 id : Int) : Nat → LI := fun n => L20a m u0 id
theorem I20_0 (m : Nt) (u0 id : Int) : I20 m u0 id 0 = L20a m u0 id := rfl
set_option maxHeartbeats 4000000 in
theorem walk20 {Phi : Nat → Option Ctr} (P18 : Phi 18 = some CNx) (P23 : Phi 23 = some CSd) (m : Nt) (u0 id : Int) : evC Phi (I20 m u0 id) rc20 ⟨initS [m.av, .int .i64 u0, .int .u8 id], initM false []⟩ (kRet rv20 (.tup [.lst [.int .i64 0] (i64s (ptL m u0 id)), .int .i64 (nxE m u0 id)]) false []) := by
  simp (config := {maxSteps := 2000000, contextual := true}) only [rc20, Nt.av, initM_f, rv20, evC_seq, evC_region, eo_box, evG_no, Option.getD_some, ev_box, av_t, initS_at, List.getD_cons_zero, gv_agg, bind1_some', boxR_eq, cells_agg, List.length_cons, List.length_nil, Nat.zero_add, Nat.reduceAdd, ↓reduceIte, bxO_some, Nat.reduceMul, goOp_some, put_n, killB_cells, List.map_cons, kill0_int, kill0_lst, List.map_nil, eo_mov, ev_mov, av_c, gv_nil, un1_mov, put_q, gv_int, evOps_nil, kEnd_at, hasG_no, hasG_nil, kEndB_f, kSeq_n, evC_block, evC_loop, I20_0, L20aS, S20a, SL_ge, lkL_cons, upd_at, Nat.reduceEqDiff, killS_at, List.getD_cons_succ, kill3_int, lkS_int, lkS_ptr, lkS_nil_vw, lookM_cons, nlK_buf, lkL_nil, List.cons_append, List.nil_append, lkM_cons, updM_at, lkB_cells, lkC_cons, lkC0_int, lkC0_lst, lkC_nil, killM_at, killO_none, lkB_buf, lkM_nil, applyL_nls, nlV_nil, Nat.reduceLeDiff, decide_true, Nat.reduceLT, Bool.and_self, nlP_t, applyL_nil, SL_ge0, leL_cons, leV1_int, kill3_ptr, leV1_ptr, leV1_vw, leL_nil, and_self, and_true, leM_cons, killO_some, leB_cells, leAs_cons, leA_int, leA_lst, leAs_nil, leB_buf, true_and, leM_nil, L20aR, SL_st, eo_load, ev_load, lookL_cons, gv_ptr, load_ptr, ldB_cells, valOf_agg, valB_true, List.drop_zero, List.take_succ_cons, List.take_zero, ldV_some, eo_call, P18, CNx, evCl_mk, ev_call, avs_cons, avs_nil, consO_some, clE_some, callE_pure, lends_cons, lend1_agg, lendC_cons, lendA_int, lendA_lst, lendC_nil, consL_some', aggL_some, lend1_int, lends_nil, callN_some, decBr_brs, decEp_eps, Nt.eta, callP_some, c2_tup, List.all_cons, c1_int, List.all_nil, flat2_tup, flat1_int, backOK_nil, clQ_t, gv_tup, eo_extract, ev_extract, un1_extract, List.getElem?_cons_zero, toR_some', List.getElem?_cons_succ, eo_cmp, ev_cmp, cmp2_some, cmp_neq, evC_cond, evC_ret, kSeq_r, kBlk_r, kLoop_r, kRet_r, retOK_eq, retL_cons, retV_t, retL_nil, lkR_two, lkVs_cons, lk1_nil, lk1_int, lkVs_nil, lkT_f, retOK_f, rtO_some, resV_two, leVs_cons, leV1_nil, leA_nil, leVs_nil, knowL_nil, askL_nil, evC_skip, cmp_lss, gv_vw, lk1_vw_lst, applyL_frz, frzQ_buf, frzP_t, frzSl_at, frz3_vw, frz3_int, leV1_lst, eo_bsliceO, vwsG_cons, ar_t, vws1_int, vwsG_nil, frzL_nil, goF_eq, ev_bsliceO, List.replicate_succ, List.replicate_zero, fillS_cons, fsK_some, cells_int, fsC_some, c0_int, List.set_cons_zero, fillS_nil, blO2_some, killB_buf, eo_append, ev_append, kill3_vw, bind2_some', appQR_vw, ysOf_vw, ysV_buf, appC_buf, appV_buf, appK_some, i64s_len, i64s_snoc, eo_faddr, ev_faddr, faddr_ptr, valOf_one, eo_iaddrS, ev_iaddrS, gv_lst, iaddrS_lst, beq_self_eq_true, iasB_true, brs_len, gv_ep, load_ep, getE_br, P23, CSd, Br.eta, c1_bool, flat1_bool, kBlk_n, kLoop_n, lkS_vw_vw, renK_t, askL_cons, knowL_cons, condK_bool, true_imp_iff]
  refine ⟨⟨u0, [], .inl ⟨rfl, rfl⟩⟩, ⟨rfl, rfl⟩, ?_⟩
  rintro ⟨u, o, h⟩
  dsimp only
  refine ⟨fun h1 => ?_, fun h1 => ?_⟩
  · have g : nxE m u id ≠ 0 := by simpa using h1
    rcases h with ⟨rfl, rfl⟩ | h
    · rw [ptL, if_pos g]; exact ⟨rfl, rfl⟩
    · exact absurd h.1 g
  have z : nxE m u id = 0 := by simpa using h1
  obtain ⟨O, hu, k, ht, p1, p2⟩ := nx_0 z
  have B : nxE m u0 id = 0 ∧ o ++ way m id (nat (nxO m id) u).toNat u = way m id (nat (nxO m id) u0).toNat u0 ∧ o.length + (nat (nxO m id) u).toNat ≤ 7 := by
    rcases h with ⟨rfl, rfl⟩ | h
    · exact ⟨z, rfl, by simp only [List.length_nil]; omega⟩
    · exact h.2
  obtain ⟨z0, hw, hl⟩ := B
  have hi := nxI_0 z
  have P : ptL m u0 id = way m id (nat (nxO m id) u0).toNat u0 := by rw [ptL, if_neg (by rw [z0]; simp)]
  refine ⟨fun h2 => ?_, fun h2 => ?_⟩
  · have h2 := of_decide_eq_true h2
    have hz : nat (nxO m id) u = 0 := by
      by_cases c : nat (nxO m id) u = 0
      · exact c
      · rw [hi, if_neg c] at h2; omega
    rw [hz] at hw
    have hw : o ++ [] = _ := hw
    rw [List.append_nil] at hw
    rw [P, ← hw, z0]; exact ⟨rfl, rfl⟩
  · have h2 := of_decide_eq_false h2
    have hz : nat (nxO m id) u ≠ 0 := fun c => by rw [hi, if_pos c] at h2; omega
    have hI : nxI m u id = (hop m.bs (nxO m id) u : Int) := by rw [hi, if_neg hz]
    obtain ⟨q1, q2, q3, q4⟩ := nx_s z hz
    rw [hI, Int.toNat_natCast]
    have ob := O.b
    obtain ⟨c, hc⟩ : ∃ c, (nat (nxO m id) u).toNat = c + 1 := ⟨(nat (nxO m id) u).toNat - 1, by omega⟩
    have hc2 : (nat (nxO m id) (stp m id u)).toNat = c := by rw [q3]; omega
    refine ⟨by omega, by omega, ⟨by omega, by omega⟩, fun _ => ⟨⟨stp m id u, o ++ [(hop m.bs (nxO m id) u : Int)], .inr ⟨q4, z0, ?_, ?_⟩⟩, ⟨rfl, rfl⟩, by dsimp only; omega⟩⟩
    · rw [hc2, List.append_assoc]
      rw [hc] at hw
      exact hw
    · rw [hc2, List.length_append, List.length_cons, List.length_nil]; omega
structure K21a (m : Nt) (u0 id : Int) where
  u : Int
  o : List Int
  h : (o = [] ∧ u = u0) ∨ (nxE m u id = 0 ∧ nxE m u0 id = 0 ∧ o ++ way m id (nat (nxO m id) u).toNat u = way m id (nat (nxO m id) u0).toNat u0 ∧ o.length + (nat (nxO m id) u).toNat ≤ 7)
def S21a (m : Nt) (u0 id : Int) (p : K21a m u0 id) : SL := ⟨[(1, .int .i64 p.u), (2, .int .u8 id), (3, .ptr 256 0), (8, .vw 3200 0 0 0)], [(256, .cells [.int .i64 m.N, .lst [.int .u8 0, .int .i64 0, .int .i64 0] (brs m.bs), .lst [.int .u8 0, .int .u8 0, .int .i64 0] (eps m.es)]), (3200, .buf 3 [.int .i64 0] (i64s p.o))]⟩
abbrev L21a (m : Nt) (u0 id : Int) : LI := ⟨K21a m u0 id, S21a m u0 id, fun p => (nat (nxO m id) p.u).toNat, fun p q => True⟩
theorem L21aS (m : Nt) (u0 id : Int) : (L21a m u0 id).S = S21a m u0 id := rfl
theorem L21aM (m : Nt) (u0 id : Int) (p : K21a m u0 id) : (L21a m u0 id).μ p = (nat (nxO m id) p.u).toNat := rfl
theorem L21aR (m : Nt) (u0 id : Int) (p q : K21a m u0 id) : (L21a m u0 id).R p q = (True) := rfl
def I21 (m : Nt) (u0 id : Int) : Nat → LI := fun n => L21a m u0 id
theorem I21_0 (m : Nt) (u0 id : Int) : I21 m u0 id 0 = L21a m u0 id := rfl
set_option maxHeartbeats 4000000 in
theorem walk21 {Phi : Nat → Option Ctr} (P19 : Phi 19 = some CNx) (P24 : Phi 24 = some CSd) (m : Nt) (u0 id : Int) : evC Phi (I21 m u0 id) rc21 ⟨initS [m.av, .int .i64 u0, .int .u8 id], initM false []⟩ (kRet rv21 (.tup [.lst [.int .i64 0] (i64s (ptL m u0 id)), .int .i64 (nxE m u0 id)]) false []) := by
  simp (config := {maxSteps := 2000000, contextual := true}) only [rc21, Nt.av, initM_f, rv21, evC_seq, evC_region, eo_box, evG_no, Option.getD_some, ev_box, av_t, initS_at, List.getD_cons_zero, gv_agg, bind1_some', boxR_eq, cells_agg, List.length_cons, List.length_nil, Nat.zero_add, Nat.reduceAdd, ↓reduceIte, bxO_some, Nat.reduceMul, goOp_some, put_n, killB_cells, List.map_cons, kill0_int, kill0_lst, List.map_nil, eo_mov, ev_mov, av_c, gv_nil, un1_mov, put_q, gv_int, evOps_nil, kEnd_at, hasG_no, hasG_nil, kEndB_f, kSeq_n, evC_block, evC_loop, I21_0, L21aS, S21a, SL_ge, lkL_cons, upd_at, Nat.reduceEqDiff, killS_at, List.getD_cons_succ, kill3_int, lkS_int, lkS_ptr, lkS_nil_vw, lookM_cons, nlK_buf, lkL_nil, List.cons_append, List.nil_append, lkM_cons, updM_at, lkB_cells, lkC_cons, lkC0_int, lkC0_lst, lkC_nil, killM_at, killO_none, lkB_buf, lkM_nil, applyL_nls, nlV_nil, Nat.reduceLeDiff, decide_true, Nat.reduceLT, Bool.and_self, nlP_t, applyL_nil, SL_ge0, leL_cons, leV1_int, kill3_ptr, leV1_ptr, leV1_vw, leL_nil, and_self, and_true, leM_cons, killO_some, leB_cells, leAs_cons, leA_int, leA_lst, leAs_nil, leB_buf, true_and, leM_nil, L21aR, SL_st, eo_load, ev_load, lookL_cons, gv_ptr, load_ptr, ldB_cells, valOf_agg, valB_true, List.drop_zero, List.take_succ_cons, List.take_zero, ldV_some, eo_call, P19, CNx, evCl_mk, ev_call, avs_cons, avs_nil, consO_some, clE_some, callE_pure, lends_cons, lend1_agg, lendC_cons, lendA_int, lendA_lst, lendC_nil, consL_some', aggL_some, lend1_int, lends_nil, callN_some, decBr_brs, decEp_eps, Nt.eta, callP_some, c2_tup, List.all_cons, c1_int, List.all_nil, flat2_tup, flat1_int, backOK_nil, clQ_t, gv_tup, eo_extract, ev_extract, un1_extract, List.getElem?_cons_zero, toR_some', List.getElem?_cons_succ, eo_cmp, ev_cmp, cmp2_some, cmp_neq, evC_cond, evC_ret, kSeq_r, kBlk_r, kLoop_r, kRet_r, retOK_eq, retL_cons, retV_t, retL_nil, lkR_two, lkVs_cons, lk1_nil, lk1_int, lkVs_nil, lkT_f, retOK_f, rtO_some, resV_two, leVs_cons, leV1_nil, leA_nil, leVs_nil, knowL_nil, askL_nil, evC_skip, cmp_lss, gv_vw, lk1_vw_lst, applyL_frz, frzQ_buf, frzP_t, frzSl_at, frz3_vw, frz3_int, leV1_lst, eo_bsliceO, vwsG_cons, ar_t, vws1_int, vwsG_nil, frzL_nil, goF_eq, ev_bsliceO, List.replicate_succ, List.replicate_zero, fillS_cons, fsK_some, cells_int, fsC_some, c0_int, List.set_cons_zero, fillS_nil, blO2_some, killB_buf, eo_append, ev_append, kill3_vw, bind2_some', appQR_vw, ysOf_vw, ysV_buf, appC_buf, appV_buf, appK_some, i64s_len, i64s_snoc, eo_faddr, ev_faddr, faddr_ptr, valOf_one, eo_iaddrS, ev_iaddrS, gv_lst, iaddrS_lst, beq_self_eq_true, iasB_true, brs_len, gv_ep, load_ep, getE_br, P24, CSd, Br.eta, c1_bool, flat1_bool, kBlk_n, kLoop_n, lkS_vw_vw, renK_t, askL_cons, knowL_cons, condK_bool, true_imp_iff]
  refine ⟨⟨u0, [], .inl ⟨rfl, rfl⟩⟩, ⟨rfl, rfl⟩, ?_⟩
  rintro ⟨u, o, h⟩
  dsimp only
  refine ⟨fun h1 => ?_, fun h1 => ?_⟩
  · have g : nxE m u id ≠ 0 := by simpa using h1
    rcases h with ⟨rfl, rfl⟩ | h
    · rw [ptL, if_pos g]; exact ⟨rfl, rfl⟩
    · exact absurd h.1 g
  have z : nxE m u id = 0 := by simpa using h1
  obtain ⟨O, hu, k, ht, p1, p2⟩ := nx_0 z
  have B : nxE m u0 id = 0 ∧ o ++ way m id (nat (nxO m id) u).toNat u = way m id (nat (nxO m id) u0).toNat u0 ∧ o.length + (nat (nxO m id) u).toNat ≤ 7 := by
    rcases h with ⟨rfl, rfl⟩ | h
    · exact ⟨z, rfl, by simp only [List.length_nil]; omega⟩
    · exact h.2
  obtain ⟨z0, hw, hl⟩ := B
  have hi := nxI_0 z
  have P : ptL m u0 id = way m id (nat (nxO m id) u0).toNat u0 := by rw [ptL, if_neg (by rw [z0]; simp)]
  refine ⟨fun h2 => ?_, fun h2 => ?_⟩
  · have h2 := of_decide_eq_true h2
    have hz : nat (nxO m id) u = 0 := by
      by_cases c : nat (nxO m id) u = 0
      · exact c
      · rw [hi, if_neg c] at h2; omega
    rw [hz] at hw
    have hw : o ++ [] = _ := hw
    rw [List.append_nil] at hw
    rw [P, ← hw, z0]; exact ⟨rfl, rfl⟩
  · have h2 := of_decide_eq_false h2
    have hz : nat (nxO m id) u ≠ 0 := fun c => by rw [hi, if_pos c] at h2; omega
    have hI : nxI m u id = (hop m.bs (nxO m id) u : Int) := by rw [hi, if_neg hz]
    obtain ⟨q1, q2, q3, q4⟩ := nx_s z hz
    rw [hI, Int.toNat_natCast]
    have ob := O.b
    obtain ⟨c, hc⟩ : ∃ c, (nat (nxO m id) u).toNat = c + 1 := ⟨(nat (nxO m id) u).toNat - 1, by omega⟩
    have hc2 : (nat (nxO m id) (stp m id u)).toNat = c := by rw [q3]; omega
    refine ⟨by omega, by omega, ⟨by omega, by omega⟩, fun _ => ⟨⟨stp m id u, o ++ [(hop m.bs (nxO m id) u : Int)], .inr ⟨q4, z0, ?_, ?_⟩⟩, ⟨rfl, rfl⟩, by dsimp only; omega⟩⟩
    · rw [hc2, List.append_assoc]
      rw [hc] at hw
      exact hw
    · rw [hc2, List.length_append, List.length_cons, List.length_nil]; omega
end Go.Proofs.Yteakklbbdfgbdaa
