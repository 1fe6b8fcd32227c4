/- A part of the proof: symbolic evaluation of the program's functions, proved sound against the model; no condition. -/
import Derived.Test.YtklbnccpeeehkaaEvHE
namespace Go.Proofs.Ytklbnccpeeehkaa
open Go Go.RowKit Go.Ev
set_option linter.unusedSimpArgs false
set_option linter.unusedVariables false
set_option maxRecDepth 20000
theorem rp_shape {l : List Rc} {i : Int} {r : Rc} (h : rpE l i r = 0) : (0 ≤ i ∧ i ≤ l.length) ∧ rpL l i r = rpX l i r ∧ ((rpL l i r).length : Int) = max (l.length : Int) (i + 1) ∧ (rpL l i r).getD i.toNat r0 = r ∧ ∀ j : Nat, (j : Int) ≠ i → (rpL l i r).getD j r0 = l.getD j r0 := by
  have h1 : ¬ (i < 0 ∨ (l.length : Int) < i) := fun e => by rw [(rp_rng (r := r) e).1] at h; cases h
  have hv : vlR (rpX l i r) = true := by
    cases hv : vlR (rpX l i r) with
    | true => rfl
    | false => rw [(rp_bad h1 hv).1] at h; cases h
  have e := (rp_ok h1 hv).2
  rw [e]
  refine ⟨by omega, rfl, ?_, ?_, ?_⟩
  · simp only [rpX]; split
    · simp only [List.length_append, List.length_cons, List.length_nil]; omega
    · simp only [List.length_set]; omega
  · simp only [rpX]; split
    · rename_i he
      rw [List.getD_eq_getElem?_getD, show i.toNat = l.length by omega, List.getElem?_append_right (Nat.le_refl _)]; simp
    · rw [List.getD_eq_getElem?_getD, List.getElem?_set_self (by omega)]; rfl
  · intro j hj
    simp only [rpX]; split
    · rename_i he
      by_cases hj2 : j < l.length
      · rw [List.getD_eq_getElem?_getD, List.getElem?_append_left hj2, ← List.getD_eq_getElem?_getD]
      · rw [List.getD_eq_getElem?_getD, List.getElem?_eq_none (by simp only [List.length_append, List.length_cons, List.length_nil]; omega), List.getD_eq_getElem?_getD, List.getElem?_eq_none (by omega)]
    · rw [List.getD_eq_getElem?_getD, List.getElem?_set_ne (by omega), ← List.getD_eq_getElem?_getD]
theorem getE_rp (l : List Rc) (i t : Int) (d : List Int) (h : (!decide (rpE l i ⟨t, d⟩ = 0)) = false) : getE [.int .u8 0, .nil] (recs (rpL l i ⟨t, d⟩)) i.toNat = [.int .u8 t, .lst [.int .u8 0] (u8s d)] := by
  have h : rpE l i ⟨t, d⟩ = 0 := by simpa using h
  obtain ⟨h1, h2, h3, h4, h5⟩ := rp_shape h
  rw [getE_rec' _ _ (by omega), h4]
theorem fdN_le (l : List Rc) (k : Int) : ∀ (n j i : Nat), j ≤ i → i < j + n → (l.getD i r0).ty = k → 0 ≤ fdN l k n j ∧ fdN l k n j ≤ i
  | 0, j, i, h1, h2, _ => by omega
  | n + 1, j, i, h1, h2, h3 => by
    simp only [fdN]
    split
    · omega
    · rename_i h
      have : j ≠ i := fun e => h (e ▸ h3)
      exact fdN_le l k n (j + 1) i (by omega) (by omega) h3
structure K4a (k : Int) (D : List Int) where
  i : Nat
  q : List Rc
  x : Int
  hq : q.length ≤ 7
  he : rpE q x ⟨k, D⟩ = 0
  hi : i ≤ (rpL q x ⟨k, D⟩).length
def S4a (k : Int) (D : List Int) (p : K4a k D) : SL := ⟨[(9, .lst [.int .u8 0, .nil] (recs p.q)), (2, .int .u8 k), (11, .int .i64 p.x), (12, .lst [.int .u8 0, .nil] (recs (rpL p.q p.x ⟨k, D⟩))), (14, .int .i64 p.i)], []⟩
abbrev L4a (k : Int) (D : List Int) : LI := ⟨K4a k D, S4a k D, fun p => (rpL p.q p.x ⟨k, D⟩).length - p.i, fun p q => True⟩
theorem L4aS (k : Int) (D : List Int) : (L4a k D).S = S4a k D := rfl
theorem L4aM (k : Int) (D : List Int) (p : K4a k D) : (L4a k D).μ p = (rpL p.q p.x ⟨k, D⟩).length - p.i := rfl
theorem L4aR (k : Int) (D : List Int) (p q : K4a k D) : (L4a k D).R p q = (True) := rfl
def I4 (k : Int) (D : List Int) : Nat → LI := fun n => L4a k D
theorem I4_0 (k : Int) (D : List Int) : I4 k D 0 = L4a k D := rfl
set_option maxHeartbeats 4000000 in
theorem walk4 {Phi : Nat → Option Ctr} (P9 : Phi 9 = some CDl) (P10 : Phi 10 = some CAw) (P11 : Phi 11 = some CRl) (P15 : Phi 15 = some CDR) (P16 : Phi 16 = some CMd) (P17 : Phi 17 = some CRp) (P19 : Phi 19 = some CSm) (P20 : Phi 20 = some CFi) (P22 : Phi 22 = some CCp) (P23 : Phi 23 = some CSb) (L : List Int) (x k : Int) (D : List Int) : evC Phi (I4 k D) rc4 ⟨initS [.lst [.int .i64 0] (i64s L), .int .i64 x, .int .u8 k, .lst [.int .u8 0] (u8s D)], initM false []⟩ (kRet rv4 (.bool true) false []) := by
  simp (config := {maxSteps := 2000000, contextual := true}) only [rc4, initM_f, rv4, evC_seq, evC_region, eo_mov, evG_no, Option.getD_some, ev_mov, av_c, gv_bool, bind1_some', un1_mov, goOp_some, put_q, evOps_nil, kEnd_at, hasG_no, hasG_nil, kEndB_f, kSeq_n, av_t, upd_at, Nat.reduceEqDiff, ↓reduceIte, initS_at, List.getD_cons_zero, gv_lst, eo_call, P9, CDl, evCl_mk, ev_call, avs_cons, avs_nil, consO_some, clO_some, call_pure, lends_cons, lend1_lst, lends_nil, consL_some', List.nil_append, callN_some, decI_i64s, and_self, callP_some, c2_bool, flat2_bool, backOK_nil, Bool.and_self, clQ_t, eo_not, ev_not, un1_not, evG_yes, pathG_bool, gG_some, List.getD_cons_succ, guardR_q, guardL_nil, eo_len, ev_len, gv_gd, List.contains_cons, List.contains_nil, Bool.or_false, List.all_cons, beq_self_eq_true, List.all_nil, gvB_true, len_lst, u8s_len, eo_cmp, ev_cmp, gv_int, cmp2_some, cmp_gtr, toR_some', eo_pick, ev_pick, pick3_some, pickV_bool, Bool.cond_true_left, hasG_yes, kEndB_t, evC_cond, P10, CAw, evC_ret, kSeq_r, kRet_r, retOK_eq, retL_cons, retV_t, retL_nil, lkR_one, lk1_bool, lkT_f, applyL_nil, retOK_f, rtO_some, resV_one, leV1_bool, knowL_nil, askL_nil, askL_cons, evC_skip, ungdS_at, ungd_lst, P11, CRl, evCl_ext, evXV_some, evX_f, evXA_some, evXN_some, evXP_eq, wfX2_fp, c0_lst, c0_int, frs2_fp, idsOK_eq, List.map_cons, List.map_nil, nodupN_cons, Bool.not_false, nodupN_nil, Nat.reduceLT, decide_true, flatX2_fp, flat0_lst, flat0_int, Bool.and_true, flatL_cells, flatL_nil, evOpsk_at, P15, CDR, backX_nil, putX_eq, unfr2_fp, Nat.reduceMul, Nat.reduceAdd, Nat.add_zero, addF_cons, addF_nil, putY_eq, gv_ptr, evX_t, updM_at, evXC_cells, lend1_int, evXB_some, Int.reduceLE, evXM_some, evXS_eq, wfX2_lst, frs2_lst, flatX2_lst, setB_eq, unfr2_lst, P22, CCp, decR_recs, implies_true, recs_len, true_and, c2_lst, flat2_lst, killS_at, ungd_int, kill3_int, eo_arith, ev_arith, bind2_some', arith_add, P16, CMd, c2_int, flat2_int, kill3_lst, eo_build, ev_build, fillA_cons, faK_some, cells_int, faC_some, Nat.zero_add, List.length_cons, List.length_nil, Nat.reduceLeDiff, setC_cons, List.set_cons_zero, setC_nil, cells_lst, List.set_cons_succ, fillA_nil, blO_some, P17, CRp, gv_agg, lend1_agg, lendC_cons, lendA_int, lendA_lst, lendC_nil, aggL_some, decU_u8s, c2_tup, c1_lst, c1_int, flat2_tup, flat1_lst, flat1_int, gv_tup, eo_extract, ev_extract, un1_extract, List.getElem?_cons_zero, List.getElem?_cons_succ, P19, CSm, Bool.not_true, and_true, cmp_neq, cmp_eql, Bool.cond_false_right, eo_call_g, guardL_cons, pathP_cons, boolOf_bool, pathP_nil, ungd_bool, eo_minmax, ev_minmax, mmO_some, mm_max, mm_nil, eo_iaddrS, ev_iaddrS, iaddrS_lst, iasB_true, eo_faddr, ev_faddr, faddr_ep, eo_load, ev_load, load_ep, valOf_one, knowL_cons, ar_t, condK_bool, getE_rp, ldV_some, P23, CSb, evC_block, evC_loop, I4_0, L4aS, S4a, SL_ge, lkL_cons, lkS_lst, lkS_int, lkL_nil, lkM_nil, SL_ge0, leL_cons, leV1_lst, leV1_int, leL_nil, leM_nil, L4aR, SL_st, lookL_cons, cmp_lss, evC_draw, preK_some, needD_mov, preB_f, needD_cmp, needD_iaddrS, needD_faddr, needD_load, needD_call, needD_not, needD_pick, preK_nil, evD_cons, evDk_some, newOK_none, Int.toNat_natCast, pairD_cons, pairOK_eq, newMen_none, Nat.reduceBEq, Bool.or_true, pairB_t, pairD_nil, pairB_f, chkR_eq, pslots_gd, optN_some, disjN_cons, disjN_nil, newI_none, pslots_int, evC_exit, kSeq_e, kLoop_e, kBlk_e, kBlkB_t, P20, CFi, cmp_geq, cmp_leq, getE_rec, true_imp_iff, Bool.false_eq_true, false_imp_iff]
  intro h
  simp only [Bool.or_eq_false_iff, Bool.not_eq_false', decide_eq_false_iff_not, decide_eq_true_eq] at h
  rintro _ ⟨q, a1⟩ ⟨hq, hr, _⟩
  dsimp only at hq hr ⊢
  rw [show IntKind.i64.wrap ((q.length : Int) + 1) = (q.length : Int) + 1 from wr_in _ (by omega) (by omega)]
  have bd := modI_bd (n := x) (m := (q.length : Int) + 1) (by omega) (by omega)
  generalize modI x ((q.length : Int) + 1) = x' at bd ⊢
  refine ⟨by omega, fun _ => ⟨by omega, ⟨by omega, by omega⟩, fun he => ?_, fun he _ => ?_⟩⟩
  · have he : ¬ rpE q x' ⟨k, D⟩ = 0 := of_decide_eq_false (by simpa only [Bool.not_eq_true'] using he)
    refine AV.bool_inj' ?_
    have e1 : rpE q x' ⟨k, D⟩ = 1 := by
      simp only [rpE] at he ⊢
      rw [if_neg (by omega)] at he ⊢
      split at he
      · exact absurd rfl he
      · rename_i hv; rw [if_neg hv]
    have e2 : rpL q x' ⟨k, D⟩ = [] := by simp only [rpL]; rw [if_neg he]
    rw [e1, e2]; rfl
  have he : rpE q x' ⟨k, D⟩ = 0 := of_decide_eq_true (by simpa only [Bool.not_eq_false'] using he)
  obtain ⟨g1, g2, g3, g4, g5⟩ := rp_shape he
  have w1 : IntKind.i64.wrap (x' + 1) = x' + 1 := wr_in _ (by omega) (by omega)
  rw [w1]
  refine ⟨fun _ => ⟨by omega, by omega⟩, fun _ => ⟨by omega, by omega⟩, fun h2 => ?_, fun _ => ⟨⟨0, q, x', by omega, he, by omega⟩, ⟨rfl, rfl, rfl, rfl⟩, ?_⟩⟩
  · have h2 : ¬ _ := of_decide_eq_false (by simpa only [Bool.not_eq_true'] using h2)
    exact absurd g3 h2
  clear w1 bd
  rintro ⟨i, q, x, hq, he, hi⟩ _
  obtain ⟨g1, g2, g3, g4, g5⟩ := rp_shape he
  dsimp only
  refine ⟨fun hc => ?_, fun hc => ?_⟩
  · have hc := of_decide_eq_true hc
    have hE2 := getE_rec' (rpL q x ⟨k, D⟩) i (by omega)
    by_cases hj : i < q.length
    · have hE := getE_rec' q i hj
      simp (config := {maxSteps := 2000000, contextual := true}) only [hE, List.getElem?_cons_zero, ldV_some, guardR_q, guardL_nil, evDk_some, newOK_none, Nat.reduceAdd, put_q, evD_cons, evG_yes, Option.getD_some, upd_at, Nat.reduceEqDiff, ↓reduceIte, pathG_bool, gG_some, ev_cmp, av_t, gv_gd, List.contains_cons, List.contains_nil, Bool.or_false, List.all_cons, beq_self_eq_true, List.all_nil, Bool.and_self, gvB_true, cmp2_some, cmp_neq, toR_some', ev_mov, bind1_some', un1_mov, pathG_gd, List.cons_append, List.nil_append, lookL_cons, gv_lst, gv_int, ev_iaddrS, Bool.true_or, Bool.or_true, bind2_some', iaddrS_lst, List.length_cons, List.length_nil, Nat.zero_add, iasB_true, recs_len, Int.toNat_natCast, guardL_cons, pathP_cons, boolOf_bool, boolOf_gd, pathP_nil, and_true, ev_faddr, faddr_ep, ev_load, load_ep, hE2, valOf_one, List.getElem?_cons_succ, ev_call, P23, CSb, avs_cons, avs_nil, consO_some, clO_some, call_pure, lends_cons, lend1_lst, lends_nil, consL_some', callN_some, decU_u8s, and_self, callP_some, c2_bool, flat2_bool, backOK_nil, clQ_t, implies_true, ev_not, un1_not, ev_pick, av_c, gv_bool, pick3_some, pickV_bool, Bool.cond_true_left, evG_no, Bool.cond_false_right, evD_nil, kEnd_at, hasG_no, hasG_yes, kEndB_t, kSeq_n, evC_cond, evC_seq, evC_region, eo_mov, goOp_some, evOps_nil, hasG_nil, kEndB_f, evC_ret, kBlk_r, kSeq_r, kLoop_r, kRet_r, retOK_eq, retL_cons, retV_t, retL_nil, lkR_one, lk1_bool, lkT_f, applyL_nil, retOK_f, rtO_some, resV_one, leV1_bool, knowL_nil, askL_nil, evC_skip, kBlk_n, ungdS_at, ungd_int, eo_arith, ev_arith, arith_add, kLoop_n, S4a, SL_ge, lkL_cons, ungd_lst, lkS_lst, lkS_int, lkL_nil, lkM_nil, SL_ge0, leL_cons, leV1_lst, leV1_int, leL_nil, true_and, leM_nil, ar_t, ungd_bool, condK_bool, knowD_cons, knowD_nil, pairD_cons, pairOK_eq, newMen_none, Nat.reduceBEq, pairB_t, pairD_nil, askL_cons, pairB_f, chkR_eq, pslots_gd, List.map_cons, List.map_nil, optN_some, disjN_cons, Bool.not_false, disjN_nil, newI_none]
      refine ⟨fun _ => ⟨by omega, by omega⟩, fun _ => ⟨by omega, by omega⟩, fun _ => ⟨by omega, by omega⟩, fun _ => ⟨by omega, by omega⟩, fun hb => ?_, fun _ => ⟨⟨i + 1, q, x, hq, he, by omega⟩, ⟨rfl, rfl, rfl, AV.int_inj' (wr_succ i (by omega))⟩, by dsimp only; omega⟩⟩
      by_cases e : (i : Int) = x
      · rw [decide_eq_true e] at hb; simp at hb
      · rw [g5 i e] at hb; simp at hb
    · have hE : getE [.int .u8 0, .nil] (recs q) i = [.int .u8 0, .nil] := by
        simp only [getE, recs, List.getD_eq_getElem?_getD, List.getElem?_eq_none (show (q.map Rc.cs).length ≤ i by rw [List.length_map]; omega)]; rfl
      simp (config := {maxSteps := 2000000, contextual := true}) only [hE, List.getElem?_cons_zero, ldV_some, guardR_q, guardL_nil, evDk_some, newOK_none, Nat.reduceAdd, put_q, evD_cons, evG_yes, Option.getD_some, upd_at, Nat.reduceEqDiff, ↓reduceIte, pathG_bool, gG_some, ev_cmp, av_t, gv_gd, List.contains_cons, List.contains_nil, Bool.or_false, List.all_cons, beq_self_eq_true, List.all_nil, Bool.and_self, gvB_true, cmp2_some, cmp_neq, toR_some', ev_mov, bind1_some', un1_mov, pathG_gd, List.cons_append, List.nil_append, lookL_cons, gv_lst, gv_int, ev_iaddrS, Bool.true_or, Bool.or_true, bind2_some', iaddrS_lst, List.length_cons, List.length_nil, Nat.zero_add, iasB_true, recs_len, Int.toNat_natCast, guardL_cons, pathP_cons, boolOf_bool, boolOf_gd, pathP_nil, and_true, ev_faddr, faddr_ep, ev_load, load_ep, hE2, valOf_one, List.getElem?_cons_succ, ev_call, P23, CSb, avs_cons, avs_nil, consO_some, clO_some, call_pure, lends_cons, lend1_lst, lend1_nil, lends_nil, consL_some', callN_some, decU_u8s, and_self, callP_some, c2_bool, flat2_bool, backOK_nil, clQ_t, implies_true, ev_not, un1_not, ev_pick, av_c, gv_bool, pick3_some, pickV_bool, Bool.cond_true_left, evG_no, Bool.cond_false_right, evD_nil, kEnd_at, hasG_no, hasG_yes, kEndB_t, kSeq_n, evC_cond, evC_seq, evC_region, eo_mov, goOp_some, evOps_nil, hasG_nil, kEndB_f, evC_ret, kBlk_r, kSeq_r, kLoop_r, kRet_r, retOK_eq, retL_cons, retV_t, retL_nil, lkR_one, lk1_bool, lkT_f, applyL_nil, retOK_f, rtO_some, resV_one, leV1_bool, knowL_nil, askL_nil, evC_skip, kBlk_n, ungdS_at, ungd_int, eo_arith, ev_arith, arith_add, kLoop_n, S4a, SL_ge, lkL_cons, ungd_lst, lkS_lst, lkS_int, lkL_nil, lkM_nil, SL_ge0, leL_cons, leV1_lst, leV1_int, leL_nil, true_and, leM_nil, ar_t, ungd_bool, condK_bool, knowD_cons, knowD_nil, pairD_cons, pairOK_eq, newMen_none, Nat.reduceBEq, pairB_t, pairD_nil, askL_cons, pairB_f, chkR_eq, pslots_gd, List.map_cons, List.map_nil, optN_some, disjN_cons, Bool.not_false, disjN_nil, newI_none]
      have e : (i : Int) = x := by omega
      rw [decide_eq_true e]
      exact ⟨fun h => by simp at h, fun h => by simp at h, fun h => by simp at h, fun h => by simp at h, fun h => by simp at h, fun _ => ⟨⟨i + 1, q, x, hq, he, by omega⟩, ⟨rfl, rfl, rfl, AV.int_inj' (wr_succ i (by omega))⟩, by dsimp only; omega⟩⟩
  · have hc := of_decide_eq_false hc
    have e1 : fdI (rpL q x ⟨k, D⟩) k x = x := by
      rw [fdI, fdN_at _ k _ _ x.toNat (Nat.le_refl _) (by omega) (fun m h1 h2 => by omega) (by rw [g4])]; omega
    have e2 := fdN_le (rpL q x ⟨k, D⟩) k ((rpL q x ⟨k, D⟩).length - (0 : Int).toNat) (0 : Int).toNat x.toNat (by omega) (by omega) (by rw [g4])
    have e3 : fdI (rpL q x ⟨k, D⟩) k ((rpL q x ⟨k, D⟩).length : Int) = -1 := by rw [fdI, Int.toNat_natCast, Nat.sub_self]; rfl
    have e4 : 0 ≤ fdI (rpL q x ⟨k, D⟩) k 0 ∧ fdI (rpL q x ⟨k, D⟩) k 0 ≤ x := by rw [fdI]; exact ⟨e2.1, by omega⟩
    refine ⟨by omega, by omega, fun _ => by omega, AV.bool_inj' ?_⟩
    rw [e1, e3, decide_eq_true e4.1, decide_eq_true e4.2]; simp
end Go.Proofs.Ytklbnccpeeehkaa
