/- A part of the proof: symbolic evaluation of the program's functions, proved sound against the model; no condition. -/
import Derived.Test.YtofldhooanikcaaEvFV
namespace Go.Proofs.Ytofldhooanikcaa
open Go Go.RowKit Go.Ev
set_option linter.unusedSimpArgs false
set_option linter.unusedVariables false
set_option maxRecDepth 20000
/-- FanSettles: the loop that fills the readings. -/
structure K8 where
  z : Zn
  s : Sp
  e : Int
  a : Sp
  n : Nat
  i : Nat
  hz : GZ z
  hs : sd z s = true
  he : -100000 ≤ e ∧ e ≤ 100000
  hi : i ≤ z.sens.length
  hn : n ≤ 3000
  hb : (n : Int) ≤ 1000 * (z.most - z.least) + 1002
  hst : ∃ k, stl z e k s = (a, n)
  hfix : ctl z a e = a
def rdg (z : Zn) (e : Int) : Int := z.tgt + 1000 * e
def S8 (p : K8) : SL := ⟨[(1, .int .i64 p.e), (6, .ptr 448 0), (7, .ptr 512 0), (8, .ptr 576 0), (9, .int .i64 p.n), (14, .vw 5824 0 0 0), (15, .vw 6080 0 0 0), (96, .int .i64 p.z.sens.length), (97, .int .i64 p.i)], [(448, .cells p.z.cs), (512, .cells p.s.cs), (576, .cells p.a.cs), (5824, .buf 2 [.int .i64 0] (i64s (padI (List.replicate p.i (rdg p.z p.e)) p.z.sens.length))), (6080, .buf 4 [.bool false] (bls (padB p.i p.z.sens.length)))]⟩
def L8 : LI := ⟨K8, S8, fun p => p.z.sens.length - p.i, fun _ _ => True⟩
/-- FanSettles: the loop of the steps. -/
structure K8b where
  z : Zn
  s : Sp
  was : Sp
  e : Int
  a : Sp
  n : Nat
  i : Nat
  hz : GZ z
  hs : sd z s = true
  he : -100000 ≤ e ∧ e ≤ 100000
  hi : i ≤ n
  hn : n ≤ 3000
  hb : (n : Int) ≤ 1000 * (z.most - z.least) + 1002
  hst : ∃ k, stl z e k s = (a, n - i)
  hfix : ctl z a e = a
  hw : i = 0 ∨ was ≠ s
def S8b (p : K8b) : SL := ⟨[(6, .ptr 448 0), (7, .ptr 512 0), (8, .ptr 576 0), (9, .int .i64 p.n), (14, .vw 5824 0 0 0), (15, .vw 6080 0 0 0), (17, .ptr 1152 0), (18, .int .i64 p.i)], [(448, .cells p.z.cs), (512, .cells p.s.cs), (576, .cells p.a.cs), (1152, .cells p.was.cs), (5824, .buf 2 [.int .i64 0] (i64s (List.replicate p.z.sens.length (rdg p.z p.e)))), (6080, .buf 4 [.bool false] (bls (List.replicate p.z.sens.length true)))]⟩
def L8b : LI := ⟨K8b, S8b, fun p => p.n - p.i, fun _ _ => True⟩
def I8 : Nat → LI := fun n => if n = 0 then L8 else L8b
theorem I8a : I8 0 = L8 := rfl
theorem I8b : I8 1 = L8b := rfl
theorem L8S : L8.S = S8 := rfl
theorem L8R (p q) : L8.R p q = True := rfl
theorem L8bS : L8b.S = S8b := rfl
theorem L8bR (p q) : L8b.R p q = True := rfl
theorem se_ok {z : Zn} {s : Sp} {e : Int} (h : seE z s e = 0) : sd z s = true ∧ (-100000 ≤ e ∧ e ≤ 100000) ∧ seS z s e = (stR z s e).1 ∧ seN z s e = ((stR z s e).2 : Int) ∧ ((stR z s e).2 : Int) ≤ 1000 * (z.most - z.least) + 1000 ∧ ctl z (stR z s e).1 e = (stR z s e).1 := by
  simp only [seE] at h
  cases h1 : sd z s with
  | false => rw [h1] at h; simp at h
  | true => cases h2 : wi e (-100000) 100000 with
    | false => rw [h1, h2] at h; simp at h
    | true =>
      have he : -100000 ≤ e ∧ e ≤ 100000 := by simpa [wi] using h2
      have hf := stl_fix he (k := nu z s e + 1) h1 (by omega)
      have hb := nu_bd h1 e
      have hf2 : (stR z s e).2 ≤ nu z s e := hf.2.1
      refine ⟨rfl, he, by simp [seS, h1, h2], by simp [seN, h1, h2], by omega, hf.1⟩
theorem seE_bnd {z : Zn} (h : VZ z) : IntKind.i64.wrap (IntKind.i64.wrap (IntKind.i64.wrap (1000 * IntKind.i64.wrap (z.most - z.least)) + 1000) + 2) = 1000 * (z.most - z.least) + 1002 := by
  simp only [VZ] at h
  rw [wr_in (z.most - z.least) (by omega) (by omega), wr_in (1000 * (z.most - z.least)) (by omega) (by omega), wr_in (1000 * (z.most - z.least) + 1000) (by omega) (by omega), wr_in _ (by omega) (by omega)]
  omega
theorem rd_ok {z : Zn} {s : Sp} {e : Int} (hz : GZ z) (hs : sd z s = true) (he : -100000 ≤ e ∧ e ≤ 100000) :
    stp z s (List.replicate z.sens.length (rdg z e)) (List.replicate z.sens.length true) = ctl z s e ∧ stpE z s (List.replicate z.sens.length (rdg z e)) (List.replicate z.sens.length true) = 0 := by
  have ht := hz.t
  have h1 := hz.s1
  have hx : exOK z (List.replicate z.sens.length (rdg z e)) (List.replicate z.sens.length true) = true := by
    rw [exOK_iff]
    refine ⟨vz_of_sd hs, by simp, by simp, fun j hj => ?_⟩
    simp [List.getD_eq_getElem?_getD, List.getElem?_replicate] at hj ⊢
    simp [hj]
  have e1 : ex1 z (rdg z e) = e := by
    simp only [ex1, lim, W, rdg]
    rw [show max (-1000000000000) (min (z.tgt + 1000 * e) 1000000000000) - z.tgt = 1000 * e by omega, wr_in _ (by omega) (by omega), flr_eq (by omega) (by omega)]
    omega
  have e2 : ∀ (n : Nat) (o : Int), (List.replicate (n + 1) (rdg z e)).foldl (fun o r => max o (ex1 z r)) o = max o e := by
    intro n
    induction n with
    | zero => intro o; simp [e1]
    | succ n ih => intro o; rw [List.replicate_succ, List.foldl_cons, ih, e1]; omega
  have e3 : exV z (List.replicate z.sens.length (rdg z e)) = e := by
    obtain ⟨n, hn⟩ : ∃ n, z.sens.length = n + 1 := ⟨z.sens.length - 1, by omega⟩
    rw [hn, exV, e2]; omega
  have := stp_ok hs hx
  rw [e3] at this
  exact this
theorem Sp.ext2 {s t : Sp} (h1 : s.out = t.out) (h2 : s.sum = t.sum) : s = t := by cases s; cases t; simp only at h1 h2; rw [h1, h2]
set_option maxHeartbeats 4000000 in
theorem walk8 {Phi : Nat → Option Ctr} (P9 : Phi 9 = some CAwake) (P10 : Phi 10 = some CNw) (P11 : Phi 11 = some CZo) (P12 : Phi 12 = some CSpd) (P14 : Phi 14 = some CNx) (P18 : Phi 18 = some CSp) (P22 : Phi 22 = some CSe) (P23 : Phi 23 = some CSe) (L : List Int) (hL : Okb L) (e0 : Int) (he0 : -9223372036854775808 ≤ e0 ∧ e0 ≤ 9223372036854775807) : evC Phi (I8) rc8 ⟨initS [.lst [.int .u8 0] (u8s L), .int .i64 e0], initM false []⟩ (kRet rv8 (.bool true) false []) := by
  simp (config := {maxSteps := 2000000}) only [rc8, initM_f, rv8, evC_seq, evC_region, eo_mov, evG_no, Option.getD_some, ev_mov, av_c, gv_bool, bind1_some', un1_mov, goOp_some, put_q, evOps_nil, kEnd_at, hasG_no, hasG_nil, kEndB_f, kSeq_n, eo_call, P9, CAwake, evCl_mk, ev_call, avs_nil, clO_some, call_pure, lends_nil, callN_some, callP_some, List.nil_append, c2_bool, flat2_bool, backOK_nil, Bool.and_self, clQ_t, eo_not, ev_not, av_t, upd_at, Nat.reduceEqDiff, initS_at, List.getD_cons_succ, if_false, if_true, un1_not, Bool.not_true, evC_cond, evC_ret, kSeq_r, kRet_r, retOK_eq, retL_cons, retV_t, retL_nil, consO_some, lkR_one, lk1_bool, lkT_f, applyL_nil, retOK_f, rtO_some, resV_one, leV1_bool, and_true, knowL_nil, askL_nil, evC_skip, List.getD_cons_zero, gv_lst, P10, CNw, evCl_ext, avs_cons, gv_int, evXV_some, evX_f, lends_cons, lend1_lst, lend1_int, consL_some', evXA_some, decU_u8s, and_self, Int.reduceLE, Int.reduceToNat, evXN_some, evXP_eq, wfX2_fp, List.all_cons, c0_lst, c0_int, List.all_nil, frs2_fp, idsOK_eq, List.map_cons, List.map_nil, nodupN_cons, List.contains_nil, Bool.not_false, nodupN_nil, Nat.reduceLT, decide_true, flatX2_fp, flat0_lst, flat0_int, Bool.and_true, flatL_cells, flatL_nil, backX_nil, putX_eq, unfr2_fp, Nat.reduceMul, Nat.reduceAdd, Nat.add_zero, addF_cons, addF_nil, putY_eq, killS_at, gv_ptr, P11, CZo, Zn.av, eo_alloc, ev_alloc, eo_store, evX_t, updM_at, killM_at, killO_none, evXC_cells, evXB_some, true_and, evXM_some, evXS_eq, wfX2_agg, wfX0_lst, wfX0_int, frs2_agg, frsL_cons, frs0_lst, frs0_int, frsL_nil, flatX2_agg, flatX0_lst, flatX0_int, setB_eq, unfr2_agg, unfr0_lst, unfr0_int, put_n, killB_cells, kill0_nil, kill0_int, ar_t, kill3_agg, kill0_lst, vwsT_ptr, frzL_nil, goF_eq, Option.getD_none, ev_store, gv_agg, bind2_some', store_ptr, cells_agg, List.length_cons, List.length_nil, Nat.zero_add, stB_cells, Nat.reduceLeDiff, stC_true, setC_cons, List.set_cons_zero, List.set_cons_succ, setC_nil, put_s, kill3_ptr, eo_load, ev_load, load_ptr, ldB_cells, valOf_agg, valB_true, List.drop_zero, List.take_succ_cons, List.take_zero, ldV_some, P12, CSpd, Sp.av, killO_some, lend1_agg, lendC_cons, lendA_lst, lendA_int, lendC_nil, aggL_some, Zn.eta, Bool.true_and, P14, CNx, call_state, callC_cells, callB_some, callD_t, callS_some, c2_int, flat2_int, clU_t, put_u, eo_cmp, ev_cmp, cmp2_some, cmp_lss, toR_some', eo_arith, ev_arith, arith_sub, kill3_int, P22, CSe, Sp.eta, c2_tup, c1_agg, c1_int, flat2_tup, flat1_agg, flat1_int, gv_tup, eo_extract, ev_extract, un1_extract, List.getElem?_cons_zero, List.getElem?_cons_succ, P23, cmp_neq, evG_yes, pathG_bool, gG_some, guardR_q, guardL_nil, eo_eqa, ev_eqa, gv_gd, List.contains_cons, Bool.or_false, beq_self_eq_true, gvB_true, eqa2_some, eqaR_agg, eqC_int, eqC_nil, andO_some, eqaB_t, eo_pick, ev_pick, pick3_some, pickV_bool, Bool.cond_false_right, hasG_yes, kEndB_t, ungdS_at, kill3_bool, ungd_bool, ungd_int, cmp_gtr, Bool.cond_true_left, eo_faddr, ev_faddr, ungd_ptr, faddr_ptr, valOf_one, arith_mul, arith_add, cmp_leq, evC_draw, preK_some, needD_faddr, preB_f, needD_load, needD_len, needD_mkslice, preB_t, needD_mov, preK_nil, evD_cons, evDk_some, newOK_none, ev_len, len_lst, u8s_len, ev_mkslice, mk_int, Int.toNat_natCast, i64s_rep, newOK_some, killB_buf, bls_rep, kill3_vw, gv_vw, evD_nil, eo_len, len_vw, lenV_buf, i64s_len, List.length_replicate, evC_block, evC_loop, I8a, L8S, S8, Zn.cs, Sp.cs, SL_ge, lkL_cons, lkS_int, lkS_ptr, lkS_vw_vw, renK_t, lkL_nil, lkM_cons, lkB_cells, lkC_cons, lkC0_lst, lkC0_int, lkC_nil, lkB_buf, lkM_nil, SL_ge0, leL_cons, leV1_int, leV1_ptr, leV1_vw, leL_nil, leM_cons, leB_cells, leAs_cons, leA_lst, leA_int, leAs_nil, leB_buf, leM_nil, L8R, SL_st, lookL_cons, lookL_nil, lookM_cons, lookM_nil, eo_iaddrS, ev_iaddrS, iaddrS_vw, iasV_buf, iasW_t, vwsT_bp, vws1_int, gv_bp, store_bp, cells_int, stP_buf, stQ_t, getE_i64, i64s_set, bls_len, ar_c, vws1_bool, cells_bool, c0_bool, getE_bl, bls_set, kBlk_n, kLoop_n, askL_cons, knowL_cons, evC_exit, kSeq_e, kLoop_e, kBlk_e, kBlkB_t, kill3_junk, I8b, L8bS, S8b, L8bR, P18, CSp, lend1_vw, lendB_buf, List.cons_append, decI_i64s, decB_bls, backOK_cons, kBlk_r, kLoop_r, condK_bool, cmp_eql, eqaB_f, pathG_gd, Bool.true_or, Bool.or_true, true_imp_iff, knowD_cons, knowD_nil, pairD_cons, pairOK_eq, newMen_none, Nat.reduceBEq, pairB_t, pairD_nil, pairB_f, chkR_eq, pslots_vw, optN_some, disjN_nil, newI_some, newI_none, disjN_cons, newMen_some, noMen_eq, noB_none, pslots_int, pslots_lst, pslots_ptr, kill3_lst, noB_some, Bool.false_eq_true, false_imp_iff]
  intro _
  have hT := okb_take hL 60
  refine ⟨hT, ?_⟩
  rintro ⟨z, a0⟩ ⟨hz, ha⟩
  dsimp only at hz ha ⊢
  refine ⟨⟨⟨hT, ha⟩, hz⟩, ?_⟩
  rintro ⟨s, a1⟩ ⟨_, ha1⟩
  dsimp only at ha1 ⊢
  have h8 := hz.s8
  have h1 := hz.s1
  refine ⟨ha1, fun _ => ⟨nxA_nn ha1 _, ?_⟩, fun _ => ?_⟩
  · generalize IntKind.i64.wrap (nxV (List.take 60 L) (nxA (List.take 60 L) a1 6) 2000 - 1000) = E1
    refine ⟨fun h => AV.bool_inj' ?_, fun h => ?_⟩
    · by_cases h2 : seE z s E1 = 0
      · obtain ⟨o1, o2, o3, o4, o5, o6⟩ := se_ok h2
        rw [seE_bnd (sd_bd o1).1, o4]
        simp only [Bool.or_eq_true, decide_eq_true_eq]
        right; omega
      · simp [h2]
    simp only [Bool.or_eq_false_iff, decide_eq_false_iff_not, Bool.not_eq_false', decide_eq_true_eq] at h
    obtain ⟨o1, o2, o3, o4, o5, o6⟩ := se_ok h.1
    have h3 := h.2
    rw [o4] at h3
    refine ⟨⟨by omega, by omega, by omega, by omega⟩, ⟨by omega, by omega, by omega, by omega⟩, fun _ _ _ => ?_⟩
    refine ⟨⟨z, s, E1, (stR z s E1).1, (stR z s E1).2, 0, hz, o1, o2, by omega, by omega, by omega, ⟨_, rfl⟩, o6⟩, ⟨⟨rfl, by rw [o4], rfl, rfl⟩, ⟨rfl, rfl, rfl, rfl, rfl, rfl, rfl⟩, ⟨rfl, rfl⟩, ⟨by rw [o3], by rw [o3]⟩, by simp only [List.replicate_zero]; rw [padI_nil], by rw [padB_0]⟩, ?_⟩
    rintro ⟨z, s, e, a, n, i, hz, hs, he, hi, hn, hb, hst, hfix⟩
    dsimp only
    have h8 := hz.s8
    have h1 := hz.s1
    have ht := hz.t
    have lR : (List.replicate i (rdg z e)).length = i := by simp
    have lI := padI_len (bs := List.replicate i (rdg z e)) (n := z.sens.length) (by rw [lR]; exact hi)
    have lB := padB_len hi
    rw [lI, lB]
    refine ⟨fun hc => ?_, fun hc => ?_⟩
    · have hc := of_decide_eq_true hc
      have hc2 : i < z.sens.length := by omega
      have hn1 : IntKind.i64.wrap ((i : Int) + 1) = ((i + 1 : Nat) : Int) := by rw [wr_in _ (by omega) (by omega)]; omega
      have hw : IntKind.i64.wrap (z.tgt + IntKind.i64.wrap (1000 * e)) = rdg z e := by
        rw [wr_in (1000 * e) (by omega) (by omega), wr_in _ (by omega) (by omega)]; rfl
      have hp : (padI (List.replicate i (rdg z e)) z.sens.length).set i (rdg z e) = padI (List.replicate (i + 1) (rdg z e)) z.sens.length := by
        have := padI_set (bs := List.replicate i (rdg z e)) (n := z.sens.length) (by rw [lR]; exact hc2) (rdg z e)
        rw [lR, ← List.replicate_succ'] at this
        exact this
      refine ⟨⟨by omega, by omega⟩, fun _ => ⟨hc2, ⟨by omega, by omega⟩, fun _ => ⟨hc2, ⟨z, s, e, a, n, i + 1, hz, hs, he, by omega, hn, hb, hst, hfix⟩, ⟨⟨rfl, rfl, rfl, AV.int_inj' hn1⟩, ⟨rfl, rfl, rfl, rfl, rfl, rfl, rfl⟩, ⟨rfl, rfl⟩, ⟨rfl, rfl⟩, by rw [hw, hp], by rw [padB_set hc2]⟩, by simp only [L8]; omega⟩⟩⟩
    have hc := of_decide_eq_false hc
    have hl : i = z.sens.length := by omega
    have eI : padI (List.replicate i (rdg z e)) z.sens.length = List.replicate z.sens.length (rdg z e) := by
      have := padI_full (List.replicate i (rdg z e))
      rw [lR] at this
      rw [hl] at this ⊢
      exact this
    refine ⟨⟨z, s, s, e, a, n, 0, hz, hs, he, by omega, hn, hb, by simpa using hst, hfix, .inl rfl⟩, ⟨⟨rfl, rfl⟩, ⟨rfl, rfl, rfl, rfl, rfl, rfl, rfl⟩, ⟨rfl, rfl⟩, ⟨rfl, rfl⟩, ⟨rfl, rfl⟩, by rw [eI], by rw [hl, padB_full]⟩, ?_⟩
    rintro ⟨z, s, was, e, a, n, i, hz, hs, he, hi, hn, hb, ⟨k, hst⟩, hfix, hw⟩
    dsimp only
    obtain ⟨r1, r2⟩ := rd_ok hz hs he
    rw [r1, r2]
    refine ⟨fun hc => ⟨fun h2 => by simp at h2, fun _ => ?_⟩, fun hc => AV.bool_inj' ?_⟩
    · have hc := of_decide_eq_true hc
      have hn1 : IntKind.i64.wrap ((i : Int) + 1) = ((i + 1 : Nat) : Int) := by rw [wr_in _ (by omega) (by omega)]; omega
      cases k with
      | zero => simp only [stl, Prod.mk.injEq] at hst; omega
      | succ k =>
        simp only [stl] at hst
        split at hst
        · simp only [Prod.mk.injEq] at hst; omega
        · rename_i hne
          simp only [Prod.mk.injEq] at hst
          exact ⟨⟨z, ctl z s e, s, e, a, n, i + 1, hz, (nu_dec hs he hne).2, he, by omega, hn, hb, ⟨k, Prod.ext hst.1 (by simp only; omega)⟩, hfix, .inr fun h => hne h.symm⟩, ⟨⟨rfl, AV.int_inj' hn1⟩, ⟨rfl, rfl, rfl, rfl, rfl, rfl, rfl⟩, ⟨rfl, rfl⟩, ⟨rfl, rfl⟩, ⟨rfl, rfl⟩, rfl, rfl⟩, by simp only [L8b]; omega⟩
    · have hc := of_decide_eq_false hc
      have hin : i = n := by omega
      subst hin
      have hsa : s = a := by
        cases k with
        | zero => simp only [stl, Prod.mk.injEq] at hst; exact hst.1
        | succ k =>
          simp only [stl] at hst
          split at hst
          · simp only [Prod.mk.injEq] at hst; exact hst.1
          · simp only [Prod.mk.injEq] at hst; omega
      subst hsa
      rw [hfix, seE_bnd (sd_bd hs).1]
      have hw2 : (decide ((i : Int) = 0) || !(decide (was.out = s.out) && decide (was.sum = s.sum))) = true := by
        rcases hw with hw | hw
        · simp [hw]
        · by_cases h1 : was.out = s.out
          · have : was.sum ≠ s.sum := fun h2 => hw (Sp.ext2 h1 h2)
            simp [this]
          · simp [h1]
      rw [hw2]
      simp only [decide_true, Bool.true_and, Bool.and_true, decide_eq_true_eq]
      exact hb
  · refine ⟨fun h => AV.bool_inj' ?_, fun h => ?_⟩
    · by_cases h2 : seE z s e0 = 0
      · obtain ⟨o1, o2, o3, o4, o5, o6⟩ := se_ok h2
        rw [seE_bnd (sd_bd o1).1, o4]
        simp only [Bool.or_eq_true, decide_eq_true_eq]
        right; omega
      · simp [h2]
    simp only [Bool.or_eq_false_iff, decide_eq_false_iff_not, Bool.not_eq_false', decide_eq_true_eq] at h
    obtain ⟨o1, o2, o3, o4, o5, o6⟩ := se_ok h.1
    have h3 := h.2
    rw [o4] at h3
    refine ⟨⟨by omega, by omega, by omega, by omega⟩, ⟨by omega, by omega, by omega, by omega⟩, fun _ _ _ => ?_⟩
    refine ⟨⟨z, s, e0, (stR z s e0).1, (stR z s e0).2, 0, hz, o1, o2, by omega, by omega, by omega, ⟨_, rfl⟩, o6⟩, ⟨⟨rfl, by rw [o4], rfl, rfl⟩, ⟨rfl, rfl, rfl, rfl, rfl, rfl, rfl⟩, ⟨rfl, rfl⟩, ⟨by rw [o3], by rw [o3]⟩, by simp only [List.replicate_zero]; rw [padI_nil], by rw [padB_0]⟩, ?_⟩
    rintro ⟨z, s, e, a, n, i, hz, hs, he, hi, hn, hb, hst, hfix⟩
    dsimp only
    have h8 := hz.s8
    have h1 := hz.s1
    have ht := hz.t
    have lR : (List.replicate i (rdg z e)).length = i := by simp
    have lI := padI_len (bs := List.replicate i (rdg z e)) (n := z.sens.length) (by rw [lR]; exact hi)
    have lB := padB_len hi
    rw [lI, lB]
    refine ⟨fun hc => ?_, fun hc => ?_⟩
    · have hc := of_decide_eq_true hc
      have hc2 : i < z.sens.length := by omega
      have hn1 : IntKind.i64.wrap ((i : Int) + 1) = ((i + 1 : Nat) : Int) := by rw [wr_in _ (by omega) (by omega)]; omega
      have hw : IntKind.i64.wrap (z.tgt + IntKind.i64.wrap (1000 * e)) = rdg z e := by
        rw [wr_in (1000 * e) (by omega) (by omega), wr_in _ (by omega) (by omega)]; rfl
      have hp : (padI (List.replicate i (rdg z e)) z.sens.length).set i (rdg z e) = padI (List.replicate (i + 1) (rdg z e)) z.sens.length := by
        have := padI_set (bs := List.replicate i (rdg z e)) (n := z.sens.length) (by rw [lR]; exact hc2) (rdg z e)
        rw [lR, ← List.replicate_succ'] at this
        exact this
      refine ⟨⟨by omega, by omega⟩, fun _ => ⟨hc2, ⟨by omega, by omega⟩, fun _ => ⟨hc2, ⟨z, s, e, a, n, i + 1, hz, hs, he, by omega, hn, hb, hst, hfix⟩, ⟨⟨rfl, rfl, rfl, AV.int_inj' hn1⟩, ⟨rfl, rfl, rfl, rfl, rfl, rfl, rfl⟩, ⟨rfl, rfl⟩, ⟨rfl, rfl⟩, by rw [hw, hp], by rw [padB_set hc2]⟩, by simp only [L8]; omega⟩⟩⟩
    have hc := of_decide_eq_false hc
    have hl : i = z.sens.length := by omega
    have eI : padI (List.replicate i (rdg z e)) z.sens.length = List.replicate z.sens.length (rdg z e) := by
      have := padI_full (List.replicate i (rdg z e))
      rw [lR] at this
      rw [hl] at this ⊢
      exact this
    refine ⟨⟨z, s, s, e, a, n, 0, hz, hs, he, by omega, hn, hb, by simpa using hst, hfix, .inl rfl⟩, ⟨⟨rfl, rfl⟩, ⟨rfl, rfl, rfl, rfl, rfl, rfl, rfl⟩, ⟨rfl, rfl⟩, ⟨rfl, rfl⟩, ⟨rfl, rfl⟩, by rw [eI], by rw [hl, padB_full]⟩, ?_⟩
    rintro ⟨z, s, was, e, a, n, i, hz, hs, he, hi, hn, hb, ⟨k, hst⟩, hfix, hw⟩
    dsimp only
    obtain ⟨r1, r2⟩ := rd_ok hz hs he
    rw [r1, r2]
    refine ⟨fun hc => ⟨fun h2 => by simp at h2, fun _ => ?_⟩, fun hc => AV.bool_inj' ?_⟩
    · have hc := of_decide_eq_true hc
      have hn1 : IntKind.i64.wrap ((i : Int) + 1) = ((i + 1 : Nat) : Int) := by rw [wr_in _ (by omega) (by omega)]; omega
      cases k with
      | zero => simp only [stl, Prod.mk.injEq] at hst; omega
      | succ k =>
        simp only [stl] at hst
        split at hst
        · simp only [Prod.mk.injEq] at hst; omega
        · rename_i hne
          simp only [Prod.mk.injEq] at hst
          exact ⟨⟨z, ctl z s e, s, e, a, n, i + 1, hz, (nu_dec hs he hne).2, he, by omega, hn, hb, ⟨k, Prod.ext hst.1 (by simp only; omega)⟩, hfix, .inr fun h => hne h.symm⟩, ⟨⟨rfl, AV.int_inj' hn1⟩, ⟨rfl, rfl, rfl, rfl, rfl, rfl, rfl⟩, ⟨rfl, rfl⟩, ⟨rfl, rfl⟩, ⟨rfl, rfl⟩, rfl, rfl⟩, by simp only [L8b]; omega⟩
    · have hc := of_decide_eq_false hc
      have hin : i = n := by omega
      subst hin
      have hsa : s = a := by
        cases k with
        | zero => simp only [stl, Prod.mk.injEq] at hst; exact hst.1
        | succ k =>
          simp only [stl] at hst
          split at hst
          · simp only [Prod.mk.injEq] at hst; exact hst.1
          · simp only [Prod.mk.injEq] at hst; omega
      subst hsa
      rw [hfix, seE_bnd (sd_bd hs).1]
      have hw2 : (decide ((i : Int) = 0) || !(decide (was.out = s.out) && decide (was.sum = s.sum))) = true := by
        rcases hw with hw | hw
        · simp [hw]
        · by_cases h1 : was.out = s.out
          · have : was.sum ≠ s.sum := fun h2 => hw (Sp.ext2 h1 h2)
            simp [this]
          · simp [h1]
      rw [hw2]
      simp only [decide_true, Bool.true_and, Bool.and_true, decide_eq_true_eq]
      exact hb
end Go.Proofs.Ytofldhooanikcaa
