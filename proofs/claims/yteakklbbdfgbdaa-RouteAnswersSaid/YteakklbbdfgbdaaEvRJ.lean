/- A part of the proof: symbolic evaluation of the program's functions, proved sound against the model; no condition. -/
import Derived.Test.YteakklbbdfgbdaaEvRD
namespace Go.Proofs.Yteakklbbdfgbdaa
open Go Go.RowKit Go.Ev
set_option linter.unusedSimpArgs false
set_option linter.unusedVariables false
set_option maxRecDepth 20000
/-! Codes -/
def cnK (L : List Int) (a n : Int) : Prop := a < L.length ∧ 1 ≤ n
instance (L : List Int) (a n : Int) : Decidable (cnK L a n) := by unfold cnK; infer_instance
def cnV (L : List Int) (a n : Int) : Int := if cnK L a n then (L.getD a.toNat 0).tmod n else 0
def cnA (L : List Int) (a n : Int) : Int := if cnK L a n then a + 1 else a
def cbF (L : List Int) : Nat → Int → List Int
  | 0, _ => []
  | k + 1, a => cnV L a 256 :: cbF L k (cnA L a 256)
def cbA (L : List Int) : Nat → Int → Int
  | 0, a => a
  | k + 1, a => cbA L k (cnA L a 256)
def byV (L : List Int) (a n : Int) : List Int := cbF L (cnV L a (n + 1)).toNat (cnA L a (n + 1))
def byA (L : List Int) (a n : Int) : Int := cbA L (cnV L a (n + 1)).toNat (cnA L a (n + 1))
def DLf : Ctr := .mk true fun cs xs => match cs, xs with
  | [.lst zz es, .int .i64 a], [] => some (zz = [.int .u8 0] ∧ es = u8s (decU es), .bool (decide (a < ((decU es).length : Int))), [.lst zz es, .int .i64 a])
  | _, _ => none
def DNe : Ctr := .mk true fun cs xs => match cs, xs with
  | [.lst zz es, .int .i64 a], [.int .i64 n] => some (((zz = [.int .u8 0] ∧ es = u8s (decU es)) ∧ es.length ≤ 100000) ∧ (0 ≤ a ∧ n ≤ 256) ∧ Okb (decU es), .int .i64 (cnV (decU es) a n), [.lst [.int .u8 0] (u8s (decU es)), .int .i64 (cnA (decU es) a n)])
  | _, _ => none
def DBy : Ctr := .mk true fun cs xs => match cs, xs with
  | [.lst zz es, .int .i64 a], [.int .i64 n] => some (((zz = [.int .u8 0] ∧ es = u8s (decU es)) ∧ es.length ≤ 100000) ∧ (0 ≤ a ∧ 0 ≤ n ∧ n ≤ 255) ∧ Okb (decU es), .lst [.int .u8 0] (u8s (byV (decU es) a n)), [.lst [.int .u8 0] (u8s (decU es)), .int .i64 (byA (decU es) a n)])
  | _, _ => none
def DCo : Ctr := .ext false Unit fun _ xs => match xs with
  | [.lst zz es, .int .i64 n] => some ((zz = [.int .u8 0] ∧ es = u8s (decU es)) ∧ 0 ≤ n, fun _ => (True, .fp 0 [.lst [.int .u8 0] (u8s ((decU es).take n.toNat)), .int .i64 0], []))
  | _ => none
theorem cn_bd {L : List Int} (h : Okb L) {a n : Int} (h1 : 1 ≤ n) : 0 ≤ cnV L a n ∧ cnV L a n < n := by
  unfold cnV
  split
  · have := h.getD a.toNat
    rw [tmod_nn _ n this.1]
    exact ⟨Int.emod_nonneg _ (by omega), Int.emod_lt_of_pos _ (by omega)⟩
  · omega
theorem cnA_nn {L : List Int} {a : Int} (h : 0 ≤ a) (n : Int) : 0 ≤ cnA L a n := by unfold cnA; split <;> omega
theorem cbA_nn {L : List Int} : ∀ (k : Nat) {a : Int}, 0 ≤ a → 0 ≤ cbA L k a
  | 0, _, h => h
  | k + 1, _, h => cbA_nn k (cnA_nn h 256)
theorem byA_nn {L : List Int} {a n : Int} (h : 0 ≤ a) : 0 ≤ byA L a n := cbA_nn _ (cnA_nn h _)
theorem cbF_ok {L : List Int} (h : Okb L) : ∀ (k : Nat) (a : Int), Okb (cbF L k a)
  | 0, _ => .nil
  | k + 1, a => by
    have := cn_bd h (a := a) (n := 256) (by omega)
    exact .cons (by omega) (cbF_ok h k _)
theorem cbF_len (L : List Int) : ∀ (k : Nat) (a : Int), (cbF L k a).length = k
  | 0, _ => rfl
  | k + 1, a => by rw [cbF, List.length_cons, cbF_len]
theorem byV_ok {L : List Int} (h : Okb L) (a n : Int) : Okb (byV L a n) := cbF_ok h _ _
theorem byV_len {L : List Int} (h : Okb L) {a n : Int} (h1 : 0 ≤ n) : (byV L a n).length ≤ n := by
  have := cn_bd h (a := a) (n := n + 1) (by omega)
  rw [byV, cbF_len]; omega
theorem tk_min (w : List Int) (k : Nat) : List.take (min w.length k) w = w.take k := by
  by_cases h : w.length ≤ k
  · rw [Nat.min_eq_left h, List.take_of_length_le (Nat.le_refl _), List.take_of_length_le h]
  · rw [Nat.min_eq_right (by omega)]
def CIn : Ctr := .mk false fun _ xs => match xs with
  | [.lst z1 e1, .lst z2 e2] => some ((z1 = [.int .i64 0] ∧ e1 = i64s (decU e1)) ∧ (z2 = [.int .i64 0] ∧ e2 = i64s (decU e2)), .bool (decide (decU e1 = decU e2)), [])
  | _ => none
set_option maxHeartbeats 4000000 in
theorem walk25 {Phi : Nat → Option Ctr} (L : List Int) (a : Int) : evC Phi (noI) rc25 ⟨initS (.ptr 0 0 :: []), initM true [.lst [.int .u8 0] (u8s L), .int .i64 a]⟩ (kRet rv25 (.bool (decide (a < (L.length : Int)))) true [.lst [.int .u8 0] (u8s L), .int .i64 a]) := by
  simp (config := {maxSteps := 2000000}) only [rc25, initM_t, rv25, evC_seq, evC_region, eo_mov, evG_no, Option.getD_some, ev_mov, av_c, gv_bool, bind1_some', un1_mov, goOp_some, put_q, evOps_nil, kEnd_at, hasG_no, hasG_nil, kEndB_f, kSeq_n, evC_draw, preK_some, needD_mov, preB_f, needD_nilchk, needD_faddr, needD_load, needD_len, needD_cmp, preK_nil, evD_cons, av_t, upd_at, Nat.reduceEqDiff, ↓reduceIte, initS_at, List.getD_cons_zero, gv_ptr, evDk_some, newOK_none, Nat.zero_add, ev_nilchk, un1_nilchk, Nat.reduceAdd, ev_faddr, faddr_ptr, ev_load, load_ptr, updM_at, ldB_cells, valOf_one, List.getElem?_cons_succ, List.getElem?_cons_zero, ldV_some, Nat.add_zero, ev_len, gv_lst, len_lst, u8s_len, ev_cmp, gv_int, cmp2_some, cmp_lss, toR_some', evD_nil, evC_ret, kRet_r, retOK_eq, retL_cons, retV_t, retL_nil, consO_some, lkR_one, lk1_bool, lkT_t, lkB_cells, lkC_cons, lkC0_lst, lkC0_int, lkC_nil, List.nil_append, applyL_nil, retOK_t, rtO_some, resV_one, leV1_bool, rtM_cells, leAs_cons, leA_lst, leA_int, leAs_nil, and_self, knowD_cons, knowD_nil, knowL_nil, knowL_cons, implies_true, pairD_cons, pairOK_eq, newMen_none, List.contains_cons, Nat.reduceBEq, beq_self_eq_true, List.contains_nil, Bool.or_false, Bool.or_true, pairB_t, pairD_nil, askL_nil, pairB_f, chkR_eq, pslots_int, optN_some, disjN_nil, Bool.and_self, List.map_nil, newI_none, pslots_ptr, pslots_lst, List.cons_append]
set_option maxHeartbeats 4000000 in
theorem walk13 {Phi : Nat → Option Ctr} (P25 : Phi 25 = some DLf) (L : List Int) (a n : Int) (hl : L.length ≤ 100000) (ha : 0 ≤ a) (hn : n ≤ 256) (hL : Okb L) : evC Phi (noI) rc13 ⟨initS (.ptr 0 0 :: [.int .i64 n]), initM true [.lst [.int .u8 0] (u8s L), .int .i64 a]⟩ (kRet rv13 (.int .i64 (cnV L a n)) true [.lst [.int .u8 0] (u8s L), .int .i64 (cnA L a n)]) := by
  simp (config := {maxSteps := 2000000}) only [rc13, initM_t, rv13, evC_seq, evC_region, eo_mov, evG_no, Option.getD_some, ev_mov, av_c, gv_int, bind1_some', un1_mov, goOp_some, put_q, evOps_nil, kEnd_at, hasG_no, hasG_nil, kEndB_f, kSeq_n, av_t, upd_at, Nat.reduceEqDiff, ↓reduceIte, initS_at, List.getD_cons_zero, gv_ptr, eo_call, P25, DLf, evCl_mk, ev_call, avs_cons, avs_nil, consO_some, clE_some, callE_state, updM_at, callC_cells, lends_nil, callB_some, List.all_cons, c0_lst, c0_int, List.all_nil, Bool.and_self, decU_u8s, and_self, callD_t, callS_some, c2_bool, flat2_bool, flat0_lst, flat0_int, Bool.and_true, Bool.true_and, backOK_nil, clU_t, put_u, liveB_cells, eo_not, ev_not, gv_bool, un1_not, evG_yes, pathG_bool, gG_some, List.getD_cons_succ, guardR_q, guardL_nil, eo_cmp, ev_cmp, gv_gd, List.contains_cons, List.contains_nil, Bool.or_false, beq_self_eq_true, gvB_true, cmp2_some, cmp_lss, toR_some', eo_pick, ev_pick, List.nil_append, pick3_some, pickV_bool, Bool.cond_true_left, hasG_yes, kEndB_t, evC_cond, evC_ret, kSeq_r, kRet_r, retOK_eq, retL_cons, retV_t, retL_nil, lkR_one, lk1_int, lkT_t, lkB_cells, lkC_cons, lkC0_lst, Nat.zero_add, lkC0_int, Nat.reduceAdd, lkC_nil, applyL_nil, retOK_t, rtO_some, resV_one, leV1_int, rtM_cells, leAs_cons, leA_lst, leA_int, leAs_nil, and_true, true_and, knowL_nil, askL_nil, evC_skip, evC_draw, preK_some, needD_mov, preB_f, needD_nilchk, needD_faddr, needD_load, needD_iaddrS, needD_conv, preK_nil, evD_cons, ungdS_at, ungd_ptr, evDk_some, newOK_none, ev_nilchk, un1_nilchk, ev_faddr, faddr_ptr, Nat.add_zero, ev_load, load_ptr, ldB_cells, valOf_one, List.getElem?_cons_zero, ldV_some, List.getElem?_cons_succ, ev_iaddrS, gv_lst, bind2_some', iaddrS_lst, List.length_cons, List.length_nil, iasB_true, u8s_len, gv_ep, load_ep, getE_u8, ev_conv, un1_conv, evD_nil, eo_nilchk, eo_faddr, eo_load, eo_arith, ev_arith, arith_add, eo_store, ar_t, vwsT_ptr, frzL_nil, goF_eq, Option.getD_none, ev_store, store_ptr, cells_int, stB_cells, Nat.reduceLeDiff, decide_true, stC_true, setC_cons, List.set_cons_succ, List.set_cons_zero, setC_nil, put_s, ungd_int, cmp_gtr, eo_call_g, guardR_u, pathB_cons, boolOf_bool, beqO_some, pathB_nil, mergeU_eq1, mgC_cells, mergeL_cons, mergeA_lst, Bool.cond_self, mergeA_int, mergeL_nil, mgU_some, guardU_some, guardL_cons, pathP_cons, pathP_nil, implies_true, Bool.cond_false_right, needD_shl, needD_arith, ev_shl, shl_int, bits_i64, shQ_t, arith_or, arith_rem, askL_cons, knowD_cons, knowD_nil, knowL_cons, pairD_cons, pairOK_eq, newMen_none, Nat.reduceBEq, Bool.or_true, pairB_t, pairD_nil, pairB_f, chkR_eq, pslots_int, optN_some, disjN_nil, List.map_nil, newI_none, pslots_ep, pslots_lst, List.cons_append, pslots_ptr, ungd_bool, condK_bool]
  refine ⟨fun h => ?_, fun h => ⟨?_, fun _ => ⟨fun h2 => ?_, fun _ => ?_⟩⟩⟩
  · have hk : ¬ cnK L a n := by
      rintro ⟨h1, h2⟩
      rw [decide_eq_true h1, decide_eq_false (by omega)] at h; cases h
    rw [cnV, cnA, if_neg hk, if_neg hk]; exact ⟨rfl, rfl⟩
  all_goals have hk : cnK L a n := by
              simp only [Bool.or_eq_false_iff, Bool.not_eq_false', decide_eq_true_eq, decide_eq_false_iff_not] at h
              exact ⟨h.1, by omega⟩
  · exact ⟨ha, hk.1⟩
  · rw [decide_eq_false (by omega)] at h2; cases h2
  · have hb := hL.getD a.toNat
    have h1 := hk.1
    have h2 := hk.2
    rw [cnV, cnA, if_pos hk, if_pos hk, wr_in (L.getD a.toNat 0) (by omega) (by omega), wr_in (a + 1) (by omega) (by omega)]
    exact ⟨by omega, rfl, rfl⟩
set_option maxHeartbeats 4000000 in
theorem walk10 {Phi : Nat → Option Ctr} (L : List Int) (n : Int) (hn : 0 ≤ n) : evC Phi (noI) rc10 ⟨initS [.lst [.int .u8 0] (u8s L), .int .i64 n], initM false []⟩ (kRetX rv10 false (fun _ : Unit => (True, .fp 0 [.lst [.int .u8 0] (u8s (L.take n.toNat)), .int .i64 0], []))) := by
  simp (config := {maxSteps := 2000000}) only [rc10, initM_f, rv10, evC_seq, evC_region, eo_mov, evG_no, Option.getD_some, ev_mov, av_c, gv_junk, bind1_some', un1_mov, goOp_some, put_q, evOps_nil, kEnd_at, hasG_no, hasG_nil, kEndB_f, kSeq_n, av_t, upd_at, Nat.reduceEqDiff, ↓reduceIte, initS_at, List.getD_cons_zero, gv_lst, eo_len, ev_len, len_lst, u8s_len, List.getD_cons_succ, gv_int, eo_minmax, ev_minmax, avs_cons, avs_nil, consO_some, mmO_some, mm_min, mm_nil, toR_some', eo_slice, ev_slice, boundA_none, boundA_some, optS_some, sliceQ_lst, sliceO_some, slice_lst, loOf_none, hiOf_int, List.length_cons, List.length_nil, Nat.zero_add, beq_self_eq_true, slL_some, Int.reduceLE, true_and, Int.reduceToNat, List.drop_zero, u8s_take, eo_build, ev_build, fillA_cons, faK_some, cells_lst, faC_some, Nat.reduceAdd, Nat.reduceLeDiff, setC_cons, List.set_cons_zero, setC_nil, fillA_nil, blO_some, eo_box, ev_box, gv_agg, boxR_eq, cells_agg, bxO_some, Nat.reduceMul, put_n, killB_cells, List.map_cons, kill0_lst, kill0_int, List.map_nil, gv_ptr, evC_ret, kRetX_r, retXG_eq, retX_eq, retL_cons, retV_t, retL_nil, lkR_one, lk1_ptr, lkT_f, List.nil_append, applyL_nil, retX0_eq, resXO_some, resX_one, leX1_fp, updM_at, leFC_cells, leAs_cons, leA_lst, leA_int, leAs_nil, and_self, and_true, pqR_one, pq1_fp, pqK_some, pqK_nil, nodupN_cons, List.contains_nil, Bool.not_false, nodupN_nil, Bool.and_self, List.all_cons, decide_true, List.all_nil, frs2_fp, idsOK_eq, Nat.reduceLT, wfRes_one, wfX1_fp, c0_lst, c0_int, killM_at, killO_none, resXT_f, knowL_nil, askL_nil, askL_cons, knowL_cons]
  intro _
  have e : (min (L.length : Int) n).toNat - 0 = min L.length n.toNat := by omega
  exact ⟨⟨by omega, by omega⟩, (), by rw [e, tk_min]⟩
structure K22a (a b : List Int) where
  i : Nat
  hi : i ≤ a.length
  he : ∀ j, j < i → a.getD j 0 = b.getD j 0
def S22a (a b : List Int) (p : K22a a b) : SL := ⟨[(0, .lst [.int .i64 0] (i64s a)), (1, .lst [.int .i64 0] (i64s b)), (5, .int .i64 p.i)], []⟩
abbrev L22a (a b : List Int) : LI := ⟨K22a a b, S22a a b, fun p => a.length - p.i, fun p q => True⟩
theorem L22aS (a b : List Int) : (L22a a b).S = S22a a b := rfl
theorem L22aM (a b : List Int) (p : K22a a b) : (L22a a b).μ p = a.length - p.i := rfl
theorem L22aR (a b : List Int) (p q : K22a a b) : (L22a a b).R p q = (True) := rfl
def I22 (a b : List Int) : Nat → LI := fun n => L22a a b
theorem I22_0 (a b : List Int) : I22 a b 0 = L22a a b := rfl
set_option maxHeartbeats 4000000 in
theorem walk22 {Phi : Nat → Option Ctr} (a b : List Int) : evC Phi (I22 a b) rc22 ⟨initS [.lst [.int .i64 0] (i64s a), .lst [.int .i64 0] (i64s b)], initM false []⟩ (kRet rv22 (.bool (decide (a = b))) false []) := by
  simp (config := {maxSteps := 2000000}) only [rc22, initM_f, rv22, evC_seq, evC_region, eo_mov, evG_no, Option.getD_some, ev_mov, av_c, gv_bool, bind1_some', un1_mov, goOp_some, put_q, evOps_nil, kEnd_at, hasG_no, hasG_nil, kEndB_f, kSeq_n, av_t, upd_at, Nat.reduceEqDiff, ↓reduceIte, initS_at, List.getD_cons_zero, gv_lst, eo_len, ev_len, len_lst, i64s_len, List.getD_cons_succ, eo_cmp, ev_cmp, gv_int, cmp2_some, cmp_neq, toR_some', evC_cond, evC_ret, kSeq_r, kRet_r, retOK_eq, retL_cons, retV_t, retL_nil, consO_some, lkR_one, lk1_bool, lkT_f, List.nil_append, applyL_nil, retOK_f, rtO_some, resV_one, leV1_bool, and_true, knowL_nil, askL_nil, evC_skip, evC_block, evC_loop, I22_0, L22aS, S22a, SL_ge, lkL_cons, lkS_lst, lkS_int, lkL_nil, lkM_nil, SL_ge0, leL_cons, leV1_lst, leV1_int, leL_nil, true_and, leM_nil, L22aR, SL_st, lookL_cons, cmp_lss, evC_draw, preK_some, needD_mov, preB_f, needD_iaddrS, needD_load, needD_cmp, preK_nil, evD_cons, evDk_some, newOK_none, Nat.zero_add, Nat.reduceAdd, ev_iaddrS, bind2_some', iaddrS_lst, List.length_cons, List.length_nil, beq_self_eq_true, iasB_true, Int.toNat_natCast, ev_load, gv_ep, load_ep, getE_i64, valOf_one, List.getElem?_cons_zero, ldV_some, evD_nil, kBlk_r, kLoop_r, kBlk_n, eo_arith, ev_arith, arith_add, kLoop_n, ar_t, condK_bool, knowD_cons, knowD_nil, knowL_cons, pairD_cons, pairOK_eq, newMen_none, List.contains_cons, Nat.reduceBEq, List.contains_nil, Bool.or_false, Bool.or_true, pairB_t, and_self, pairD_nil, pairB_f, chkR_eq, pslots_int, optN_some, disjN_nil, Bool.and_self, List.map_nil, newI_none, pslots_ep, pslots_lst, askL_cons, evC_exit, kSeq_e, kLoop_e, kBlk_e, kBlkB_t, true_imp_iff]
  intro h1 h2
  refine ⟨fun hc => ?_, fun hc => ?_⟩
  · have hc : ¬ (a.length : Int) = b.length := by simpa using hc
    refine AV.bool_inj' ?_
    rw [decide_eq_false (fun e => hc (by rw [e]))]
  · have hc : a.length = b.length := by
      have : (a.length : Int) = b.length := by simpa using hc
      omega
    refine ⟨⟨0, by omega, fun j hj => by omega⟩, rfl, ?_⟩
    rintro ⟨i, hi, he⟩ _
    dsimp only
    refine ⟨fun hc2 => ?_, fun hc2 => ?_⟩
    · have hc2 := of_decide_eq_true hc2
      refine ⟨⟨by omega, by omega⟩, ⟨by omega, by omega⟩, fun _ _ => ⟨fun hn => ?_, fun hn => ⟨⟨i + 1, by omega, ?_⟩, AV.int_inj' (wr_succ i (by omega)), ?_⟩⟩⟩
      · have hn : ¬ a.getD i 0 = b.getD i 0 := by simpa using hn
        refine AV.bool_inj' ?_
        rw [decide_eq_false (fun e => hn (by rw [e]))]
      · have hn : a.getD i 0 = b.getD i 0 := by simpa using hn
        intro j hj
        by_cases e : j = i
        · subst e; exact hn
        · exact he j (by omega)
      · show a.length - (i + 1) < a.length - i
        omega
    · have hc2 := of_decide_eq_false hc2
      refine AV.bool_inj' ?_
      have e : a = b := by
        apply List.ext_getElem hc
        intro j h1 h2
        have := he j (by omega)
        rw [List.getD_eq_getElem?_getD, List.getD_eq_getElem?_getD, List.getElem?_eq_getElem h1, List.getElem?_eq_getElem h2] at this
        exact this
      rw [decide_eq_true e]
end Go.Proofs.Yteakklbbdfgbdaa
