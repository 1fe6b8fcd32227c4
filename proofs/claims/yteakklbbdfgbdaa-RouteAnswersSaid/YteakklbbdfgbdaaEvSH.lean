/- A part of the proof: symbolic evaluation of the program's functions, proved sound against the model; no condition. -/
import Derived.Test.YteakklbbdfgbdaaEvRJ
import Derived.Test.YteakklbbdfgbdaaEvRR
namespace Go.Proofs.Yteakklbbdfgbdaa
open Go Go.RowKit Go.Ev
set_option linter.unusedSimpArgs false
set_option linter.unusedVariables false
set_option maxRecDepth 20000
/-! Codes, for any number -/
def cfV (L : List Int) (a n : Int) : Int := if cnK L a n then (if 256 < n ∧ a + 1 < L.length then (bitsI .or .i64 (L.getD a.toNat 0) (IntKind.i64.wrap (L.getD (a + 1).toNat 0 * 2 ^ 8))).tmod n else (L.getD a.toNat 0).tmod n) else 0
def cfA (L : List Int) (a n : Int) : Int := if cnK L a n then (if 256 < n ∧ a + 1 < L.length then a + 1 + 1 else a + 1) else a
theorem cfA_nn {L : List Int} {a : Int} (h : 0 ≤ a) (n : Int) : 0 ≤ cfA L a n := by
  unfold cfA
  split
  · split <;> omega
  · exact h
def DNf : Ctr := .mk true fun cs xs => match cs, xs with
  | [.lst zz es, .int .i64 a], [.int .i64 n] => some (((zz = [.int .u8 0] ∧ es = u8s (decU es)) ∧ es.length ≤ 100000) ∧ 0 ≤ a ∧ Okb (decU es), .int .i64 (cfV (decU es) a n), [.lst [.int .u8 0] (u8s (decU es)), .int .i64 (cfA (decU es) a n)])
  | _, _ => none
/-! One thing changed -/
def odK (L : List Int) (m : Nt) (a : Int) : Int := if (cnV L a 7 < 3 ∧ m.bs.length = 0) ∨ (3 ≤ cnV L a 7 ∧ cnV L a 7 < 6 ∧ m.es.length = 0) then 6 else cnV L a 7
def odM (L : List Int) (m : Nt) (a : Int) : Nt × Int :=
  if odK L m a = 0 then (⟨m.N, m.bs.set 0 ⟨(m.bs.getD 0 b0).ad, [-1, m.N, (m.bs.getD 0 b0).r].getD (cnV L (cnA L a 7) 3).toNat 0, (m.bs.getD 0 b0).r⟩, m.es⟩, cnA L (cnA L a 7) 3)
  else if odK L m a = 1 then (⟨m.N, m.bs.set 0 ⟨[0, 7, 8, 119, 120, 255].getD (cnV L (cnA L a 7) 6).toNat 0, (m.bs.getD 0 b0).l, (m.bs.getD 0 b0).r⟩, m.es⟩, cnA L (cnA L a 7) 6)
  else if odK L m a = 2 then (⟨m.N, m.bs ++ [m.bs.getD 0 b0], m.es⟩, cnA L a 7)
  else if odK L m a = 3 then (⟨m.N, m.bs, m.es.set 0 ⟨(m.es.getD 0 e0).id, (m.es.getD 0 e0).ad, [-1, m.N].getD (cnV L (cnA L a 7) 2).toNat 0⟩⟩, cnA L (cnA L a 7) 2)
  else if odK L m a = 4 then (⟨m.N, m.bs, m.es.set 0 ⟨(m.es.getD 0 e0).id, [0, 16, 17, 120].getD (cnV L (cnA L a 7) 4).toNat 0, (m.es.getD 0 e0).bu⟩⟩, cnA L (cnA L a 7) 4)
  else if odK L m a = 5 then (⟨m.N, m.bs, m.es ++ [m.es.getD 0 e0]⟩, cnA L a 7)
  else if odK L m a = 6 then (⟨[0, -1, 17, 9223372036854775807].getD (cnV L (cnA L a 7) 4).toNat 0, m.bs, m.es⟩, cnA L (cnA L a 7) 4)
  else (m, cnA L a 7)
theorem odA_nn {L : List Int} {m : Nt} {a : Int} (h : 0 ≤ a) : 0 ≤ (odM L m a).2 := by
  have h1 := cnA_nn h (L := L) 7
  unfold odM
  repeat' split
  all_goals first | exact cnA_nn h1 _ | exact h1
def DOd : Ctr := .mk true fun cs xs => match cs, xs with
  | [.lst zz es, .int .i64 a], [.agg [.int .i64 n, .lst z1 e1, .lst z2 e2]] => some ((((zz = [.int .u8 0] ∧ es = u8s (decU es)) ∧ es.length ≤ 100000) ∧ 0 ≤ a ∧ Okb (decU es)) ∧ ((z1 = [.int .u8 0, .int .i64 0, .int .i64 0] ∧ e1 = brs (decBr e1)) ∧ (z2 = [.int .u8 0, .int .u8 0, .int .i64 0] ∧ e2 = eps (decEp e2))) ∧ e1.length ≤ 1000 ∧ e2.length ≤ 1000, (odM (decU es) ⟨n, decBr e1, decEp e2⟩ a).1.av, [.lst [.int .u8 0] (u8s (decU es)), .int .i64 (odM (decU es) ⟨n, decBr e1, decEp e2⟩ a).2])
  | _, _ => none
theorem lit1 (a : Int) : [[AV.int .i64 a]] = i64s [a] := rfl
theorem litc (a : Int) (l : List Int) : [AV.int .i64 a] :: i64s l = i64s (a :: l) := rfl
theorem lit1u (a : Int) : [[AV.int .u8 a]] = u8s [a] := rfl
theorem litcu (a : Int) (l : List Int) : [AV.int .u8 a] :: u8s l = u8s (a :: l) := rfl
set_option maxHeartbeats 4000000 in
theorem walk13f {Phi : Nat → Option Ctr} (P25 : Phi 25 = some DLf) (L : List Int) (a n : Int) (hl : L.length ≤ 100000) (ha : 0 ≤ a) (hL : Okb L) : evC Phi (noI) rc13 ⟨initS (.ptr 0 0 :: [.int .i64 n]), initM true [.lst [.int .u8 0] (u8s L), .int .i64 a]⟩ (kRet rv13 (.int .i64 (cfV L a n)) true [.lst [.int .u8 0] (u8s L), .int .i64 (cfA L a n)]) := by
  simp (config := {maxSteps := 2000000}) only [rc13, initM_t, rv13, evC_seq, evC_region, eo_mov, evG_no, Option.getD_some, ev_mov, av_c, gv_int, bind1_some', un1_mov, goOp_some, put_q, evOps_nil, kEnd_at, hasG_no, hasG_nil, kEndB_f, kSeq_n, av_t, upd_at, Nat.reduceEqDiff, ↓reduceIte, initS_at, List.getD_cons_zero, gv_ptr, eo_call, P25, DLf, evCl_mk, ev_call, avs_cons, avs_nil, consO_some, clE_some, callE_state, updM_at, callC_cells, lends_nil, callB_some, List.all_cons, c0_lst, c0_int, List.all_nil, Bool.and_self, decU_u8s, and_self, callD_t, callS_some, c2_bool, flat2_bool, flat0_lst, flat0_int, Bool.and_true, Bool.true_and, backOK_nil, clU_t, put_u, liveB_cells, eo_not, ev_not, gv_bool, un1_not, evG_yes, pathG_bool, gG_some, List.getD_cons_succ, guardR_q, guardL_nil, eo_cmp, ev_cmp, gv_gd, List.contains_cons, List.contains_nil, Bool.or_false, beq_self_eq_true, gvB_true, cmp2_some, cmp_lss, toR_some', eo_pick, ev_pick, List.nil_append, pick3_some, pickV_bool, Bool.cond_true_left, hasG_yes, kEndB_t, evC_cond, evC_ret, kSeq_r, kRet_r, retOK_eq, retL_cons, retV_t, retL_nil, lkR_one, lk1_int, lkT_t, lkB_cells, lkC_cons, lkC0_lst, Nat.zero_add, lkC0_int, Nat.reduceAdd, lkC_nil, applyL_nil, retOK_t, rtO_some, resV_one, leV1_int, rtM_cells, leAs_cons, leA_lst, leA_int, leAs_nil, and_true, true_and, knowL_nil, askL_nil, evC_skip, evC_draw, preK_some, needD_mov, preB_f, needD_nilchk, needD_faddr, needD_load, needD_iaddrS, needD_conv, preK_nil, evD_cons, ungdS_at, ungd_ptr, evDk_some, newOK_none, ev_nilchk, un1_nilchk, ev_faddr, faddr_ptr, Nat.add_zero, ev_load, load_ptr, ldB_cells, valOf_one, List.getElem?_cons_zero, ldV_some, List.getElem?_cons_succ, ev_iaddrS, gv_lst, bind2_some', iaddrS_lst, List.length_cons, List.length_nil, iasB_true, u8s_len, gv_ep, load_ep, getE_u8, ev_conv, un1_conv, evD_nil, eo_nilchk, eo_faddr, eo_load, eo_arith, ev_arith, arith_add, eo_store, ar_t, vwsT_ptr, frzL_nil, goF_eq, Option.getD_none, ev_store, store_ptr, cells_int, stB_cells, Nat.reduceLeDiff, decide_true, stC_true, setC_cons, List.set_cons_succ, List.set_cons_zero, setC_nil, put_s, ungd_int, cmp_gtr, eo_call_g, guardR_u, pathB_cons, boolOf_bool, beqO_some, pathB_nil, mergeU_eq1, mgC_cells, mergeL_cons, mergeA_lst, Bool.cond_self, mergeA_int, mergeL_nil, mgU_some, guardU_some, guardL_cons, pathP_cons, pathP_nil, implies_true, Bool.cond_false_right, needD_shl, needD_arith, ev_shl, shl_int, bits_i64, shQ_t, arith_or, arith_rem, askL_cons, knowD_cons, knowD_nil, knowL_cons, pairD_cons, pairOK_eq, newMen_none, Nat.reduceBEq, Bool.or_true, pairB_t, pairD_nil, pairB_f, chkR_eq, pslots_int, optN_some, disjN_nil, List.map_nil, newI_none, pslots_ep, pslots_lst, List.cons_append, pslots_ptr, ungd_bool, condK_bool]
  have hb := hL.getD a.toNat
  refine ⟨fun h => ?_, fun h => ?_⟩
  · have hk : ¬ cnK L a n := by
      rintro ⟨h1, h2⟩
      rw [decide_eq_true h1, decide_eq_false (by omega)] at h; cases h
    rw [cfV, cfA, if_neg hk, if_neg hk]; exact ⟨rfl, rfl⟩
  have hk : cnK L a n := by
    simp only [Bool.or_eq_false_iff, Bool.not_eq_false', decide_eq_true_eq, decide_eq_false_iff_not] at h
    exact ⟨h.1, by omega⟩
  have h1 := hk.1
  have h2 := hk.2
  rw [cfV, cfA, if_pos hk, if_pos hk, wr_in (L.getD a.toNat 0) (by omega) (by omega), wr_in (a + 1) (by omega) (by omega)]
  refine ⟨⟨ha, h1⟩, fun _ => ⟨fun h3 => ?_, fun h3 => ?_⟩⟩
  · rw [Bool.and_eq_true, decide_eq_true_eq, decide_eq_true_eq] at h3
    have hb2 := hL.getD (a + 1).toNat
    rw [if_pos h3, if_pos h3, wr_in (L.getD (a + 1).toNat 0) (by omega) (by omega), wr_in (a + 1 + 1) (by omega) (by omega)]
    exact ⟨⟨by omega, h3.2⟩, fun _ => ⟨by omega, rfl, rfl⟩⟩
  · have h3 : ¬ (256 < n ∧ a + 1 < L.length) := by
      rintro ⟨q1, q2⟩
      rw [decide_eq_true q1, decide_eq_true q2] at h3; cases h3
    rw [if_neg h3, if_neg h3]
    exact ⟨by omega, rfl, rfl⟩
end Go.Proofs.Yteakklbbdfgbdaa
