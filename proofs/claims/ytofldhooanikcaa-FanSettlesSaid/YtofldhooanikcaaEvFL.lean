/- A part of the proof: symbolic evaluation of the program's functions, proved sound against the model; no condition. -/
import Derived.Test.YtofldhooanikcaaEvFI
namespace Go.Proofs.Ytofldhooanikcaa
open Go Go.RowKit Go.Ev
set_option linter.unusedSimpArgs false
set_option linter.unusedVariables false
set_option maxRecDepth 20000

def u16s (l : List Int) : List (List AV) := l.map fun k => [AV.int .u16 k]
theorem u16s_len (l : List Int) : (u16s l).length = l.length := by simp [u16s]
theorem getE_u16 (l : List Int) (i : Nat) : getE [.int .u16 0] (u16s l) i = [.int .u16 (l.getD i 0)] := getE_map _ (fun k => [AV.int .u16 k]) 0 rfl l i
theorem i64s_rep (n : Nat) : List.replicate n [AV.int .i64 0] = i64s (List.replicate n 0) := by simp [i64s]
theorem bls_rep (n : Nat) : List.replicate n [AV.bool false] = bls (List.replicate n false) := by simp [bls]
theorem rep_getD (n i : Nat) : (List.replicate n false).getD i false = false := by
  simp only [List.getD_eq_getElem?_getD, List.getElem?_replicate]; split <;> rfl
theorem i64s_set (l : List Int) (i : Nat) (x : Int) : (i64s l).set i [.int .i64 x] = i64s (l.set i x) := by simp [i64s, List.map_set]
theorem bls_set (l : List Bool) (i : Nat) (x : Bool) : (bls l).set i [.bool x] = bls (l.set i x) := by simp [bls, List.map_set]
/-- FanFails: the loop that fills what is known. -/
structure K6 where
  z : Zn
  s : Sp
  i : Nat
  w : Int
  ks : List Bool
  hz : GZ z
  hs : sd z s = true
  hi : i ≤ z.sens.length
  hk : ks.length = z.sens.length
  hw : 0 ≤ w ∧ w ≤ 255
  hf : ks.getD (w.tmod (z.sens.length : Int)).toNat false = false
def S6 (p : K6) : SL := ⟨[(1, .int .u8 p.w), (6, .ptr 448 0), (7, .ptr 512 0), (8, .vw 2048 0 0 0), (9, .vw 2304 0 0 0), (37, .int .i64 p.z.sens.length), (38, .int .i64 p.i)], [(448, .cells p.z.cs), (512, .cells p.s.cs), (2048, .buf 2 [.int .i64 0] (i64s (List.replicate p.z.sens.length 0))), (2304, .buf 4 [.bool false] (bls p.ks))]⟩
def L6 : LI := ⟨K6, S6, fun p => p.z.sens.length - p.i, fun _ _ => True⟩
/-- FanFails: the loop of the steps. -/
structure K6b where
  z : Zn
  s : Sp
  n : Int
  ks : List Bool
  hs : sd z s = true
  hn : 0 ≤ n ∧ n ≤ 1001
  hk : ks.length = z.sens.length
  hx : exOK z (List.replicate z.sens.length 0) ks = false
  ho : z.most - s.out ≤ n * z.slew
def S6b (p : K6b) : SL := ⟨[(6, .ptr 448 0), (7, .ptr 512 0), (8, .vw 2048 0 0 0), (9, .vw 2304 0 0 0), (11, .int .i64 p.s.sum), (12, .int .i64 p.n)], [(448, .cells p.z.cs), (512, .cells p.s.cs), (2048, .buf 2 [.int .i64 0] (i64s (List.replicate p.z.sens.length 0))), (2304, .buf 4 [.bool false] (bls p.ks))]⟩
def L6b : LI := ⟨K6b, S6b, fun p => p.n.toNat, fun _ _ => True⟩
def I6 : Nat → LI := fun n => if n = 0 then L6 else L6b
theorem I6a : I6 0 = L6 := rfl
theorem I6b : I6 1 = L6b := rfl
theorem L6S : L6.S = S6 := rfl
theorem L6R (p q) : L6.R p q = True := rfl
theorem L6bS : L6b.S = S6b := rfl
theorem L6bR (p q) : L6b.R p q = True := rfl
set_option maxHeartbeats 4000000 in
theorem walk6 {Phi : Nat → Option Ctr} (P9 : Phi 9 = some CAwake) (P10 : Phi 10 = some CNw) (P11 : Phi 11 = some CZo) (P12 : Phi 12 = some CSpd) (P18 : Phi 18 = some CSp) (P19 : Phi 19 = some CSd) (L : List Int) (hL : Okb L) (w : Int) (hw : 0 ≤ w ∧ w ≤ 255) : evC Phi (I6) rc6 ⟨initS [.lst [.int .u8 0] (u8s L), .int .u8 w], initM false []⟩ (kRet rv6 (.bool true) false []) := by
  simp (config := {maxSteps := 2000000}) only [rc6, initM_f, rv6, evC_seq, evC_region, eo_mov, evG_no, Option.getD_some, ev_mov, av_c, gv_bool, bind1_some', un1_mov, goOp_some, put_q, evOps_nil, kEnd_at, hasG_no, hasG_nil, kEndB_f, kSeq_n, eo_call, P9, CAwake, evCl_mk, ev_call, avs_nil, clO_some, call_pure, lends_nil, callN_some, callP_some, List.nil_append, c2_bool, flat2_bool, backOK_nil, Bool.and_self, clQ_t, eo_not, ev_not, av_t, upd_at, Nat.reduceEqDiff, initS_at, List.getD_cons_succ, if_false, if_true, un1_not, Bool.not_true, evC_cond, evC_ret, kSeq_r, kRet_r, retOK_eq, retL_cons, retV_t, retL_nil, consO_some, lkR_one, lk1_bool, lkT_f, applyL_nil, retOK_f, rtO_some, resV_one, leV1_bool, and_true, knowL_nil, askL_nil, evC_skip, List.getD_cons_zero, gv_lst, P10, CNw, evCl_ext, avs_cons, gv_int, evXV_some, evX_f, lends_cons, lend1_lst, lend1_int, consL_some', evXA_some, decU_u8s, and_self, Int.reduceLE, Int.reduceToNat, evXN_some, evXP_eq, wfX2_fp, List.all_cons, c0_lst, c0_int, List.all_nil, frs2_fp, idsOK_eq, List.map_cons, List.map_nil, nodupN_cons, List.contains_nil, Bool.not_false, nodupN_nil, Nat.reduceLT, decide_true, flatX2_fp, flat0_lst, flat0_int, Bool.and_true, flatL_cells, flatL_nil, backX_nil, putX_eq, unfr2_fp, Nat.reduceMul, Nat.reduceAdd, Nat.add_zero, addF_cons, addF_nil, putY_eq, killS_at, gv_ptr, P11, CZo, Zn.av, eo_alloc, ev_alloc, eo_store, evX_t, updM_at, killM_at, killO_none, evXC_cells, evXB_some, true_and, evXM_some, evXS_eq, wfX2_agg, wfX0_lst, wfX0_int, frs2_agg, frsL_cons, frs0_lst, frs0_int, frsL_nil, flatX2_agg, flatX0_lst, flatX0_int, setB_eq, unfr2_agg, unfr0_lst, unfr0_int, put_n, killB_cells, kill0_nil, kill0_int, ar_t, kill3_agg, kill0_lst, vwsT_ptr, frzL_nil, goF_eq, Option.getD_none, ev_store, gv_agg, bind2_some', store_ptr, cells_agg, List.length_cons, List.length_nil, Nat.zero_add, stB_cells, Nat.reduceLeDiff, stC_true, setC_cons, List.set_cons_zero, List.set_cons_succ, setC_nil, put_s, kill3_ptr, eo_load, ev_load, load_ptr, ldB_cells, valOf_agg, valB_true, List.drop_zero, List.take_succ_cons, List.take_zero, ldV_some, P12, CSpd, Sp.av, killO_some, lend1_agg, lendC_cons, lendA_lst, lendA_int, lendC_nil, aggL_some, Zn.eta, Bool.true_and, P19, CSd, Sp.eta, kill3_bool, evC_draw, preK_some, needD_faddr, preB_f, needD_load, needD_len, needD_mkslice, preB_t, needD_mov, preK_nil, evD_cons, ev_faddr, faddr_ptr, evDk_some, newOK_none, valOf_one, List.getElem?_cons_zero, ev_len, len_lst, u8s_len, ev_mkslice, mk_int, Int.toNat_natCast, i64s_rep, newOK_some, killB_buf, bls_rep, kill3_vw, gv_vw, evD_nil, eo_len, len_vw, lenV_buf, bls_len, List.length_replicate, evC_block, evC_loop, I6a, L6S, S6, Zn.cs, Sp.cs, SL_ge, lkL_cons, kill3_int, lkS_int, lkS_ptr, lkS_vw_vw, beq_self_eq_true, renK_t, lkL_nil, lkM_cons, lkB_cells, lkC_cons, lkC0_lst, lkC0_int, lkC_nil, lkB_buf, lkM_nil, SL_ge0, leL_cons, leV1_int, leV1_ptr, leV1_vw, leL_nil, leM_cons, leB_cells, leAs_cons, leA_lst, leA_int, leAs_nil, leB_buf, leM_nil, L6R, SL_st, eo_cmp, ev_cmp, lookL_cons, lookL_nil, cmp2_some, cmp_lss, toR_some', eo_conv, ev_conv, un1_conv, lookM_cons, lookM_nil, eo_arith, ev_arith, arith_rem, cmp_neq, eo_iaddrS, ev_iaddrS, iaddrS_vw, iasV_buf, iasW_t, vwsT_bp, vws1_bool, gv_bp, store_bp, cells_bool, stP_buf, c0_bool, stQ_t, getE_bl, bls_set, kBlk_n, arith_add, kLoop_n, askL_cons, knowL_cons, evC_exit, kSeq_e, kLoop_e, kBlk_e, kBlkB_t, eo_faddr, List.getElem?_cons_succ, arith_sub, arith_quo, I6b, L6bS, S6b, L6bR, cmp_gtr, P18, CSp, lend1_vw, lendB_buf, List.cons_append, decI_i64s, decB_bls, c2_tup, c1_agg, c1_int, flat2_tup, flat1_agg, flat1_int, backOK_cons, gv_tup, eo_extract, ev_extract, un1_extract, kill3_junk, evG_yes, pathG_bool, gG_some, guardR_q, guardL_nil, gv_gd, List.contains_cons, Bool.or_false, gvB_true, eo_pick, ev_pick, pick3_some, pickV_bool, Bool.cond_true_left, hasG_yes, kEndB_t, kBlk_r, kLoop_r, ungdS_at, ungd_junk, ungd_ptr, ungd_int, ungd_vw, ungd_bool, condK_bool, cmp_eql, Bool.cond_false_right, true_imp_iff, knowD_cons, knowD_nil, pairD_cons, pairOK_eq, newMen_none, Nat.reduceBEq, Bool.or_true, pairB_t, pairD_nil, pairB_f, chkR_eq, pslots_vw, optN_some, disjN_nil, newI_some, newI_none, disjN_cons, newMen_some, noMen_eq, noB_none, pslots_int, pslots_lst, pslots_ptr, kill3_lst, noB_some, implies_true, Bool.false_eq_true, false_imp_iff]
  intro _
  have hT := okb_take hL 60
  refine ⟨hT, fun q ⟨hz, ha⟩ => ⟨⟨⟨hT, ha⟩, hz⟩, fun q1 ⟨_, _⟩ hsd => ?_⟩⟩
  have hs : sd q.1 q1.1 = true := by simpa using hsd
  have h8 := hz.s8
  have h1 := hz.s1
  refine ⟨⟨by omega, by omega, by omega, by omega⟩, ⟨by omega, by omega, by omega, by omega⟩, fun _ _ _ => ?_⟩
  refine ⟨⟨q.1, q1.1, 0, w, List.replicate q.1.sens.length false, hz, hs, by omega, by simp, hw, rep_getD _ _⟩, ⟨⟨rfl, rfl, rfl⟩, ⟨rfl, rfl, rfl, rfl, rfl, rfl, rfl⟩, ⟨rfl, rfl⟩, rfl, rfl⟩, ?_⟩
  rintro ⟨z, s, i, w, ks, hz, hs, hi, hk, hw, hf⟩
  dsimp only
  have h8 := hz.s8
  have h1 := hz.s1
  have hb := sd_bd hs
  have hv := hb.1
  simp only [VZ] at hv
  refine ⟨fun hc _ => ?_, fun hc => ⟨by omega, ?_⟩⟩
  · have hc := of_decide_eq_true hc
    have hw1 : IntKind.i64.wrap w = w := wr_in _ (by omega) (by omega)
    have hm : w.tmod (z.sens.length : Int) = w % (z.sens.length : Int) := Int.tmod_eq_emod_of_nonneg hw.1
    have hn1 : IntKind.i64.wrap ((i : Int) + 1) = ((i + 1 : Nat) : Int) := by rw [wr_in _ (by omega) (by omega)]; omega
    have hf2 : (ks.set i (!decide ((i : Int) = w.tmod (z.sens.length : Int)))).getD (w.tmod (z.sens.length : Int)).toNat false = false := by
      have hm0 : 0 ≤ w % (z.sens.length : Int) := Int.emod_nonneg _ (by omega)
      have hm1 : w % (z.sens.length : Int) < (z.sens.length : Int) := Int.emod_lt_of_pos _ (by omega)
      rw [hm] at hf ⊢
      by_cases e : (i : Int) = w % (z.sens.length : Int)
      · rw [← e, Int.toNat_natCast]
        have : i < ks.length := by omega
        simp [List.getD_eq_getElem?_getD, List.getElem?_set, this]
      · have e2 : i ≠ (w % (z.sens.length : Int)).toNat := by omega
        rw [List.getD_eq_getElem?_getD, List.getElem?_set_ne e2, ← List.getD_eq_getElem?_getD]
        exact hf
    exact ⟨by omega, ⟨by omega, by omega⟩, fun _ => ⟨by omega, ⟨z, s, i + 1, w, ks.set i (!decide ((i : Int) = w.tmod (z.sens.length : Int))), hz, hs, by omega, by simp [hk], hw, hf2⟩, ⟨⟨rfl, rfl, AV.int_inj' hn1⟩, ⟨rfl, rfl, rfl, rfl, rfl, rfl, rfl⟩, ⟨rfl, rfl⟩, rfl, by simp only [hw1, hk]⟩, by simp only [L6]; omega⟩⟩
  have hd : (IntKind.i64.wrap (z.most - z.least)).tdiv z.slew = (z.most - z.least) / z.slew := by
    rw [wr_in _ (by omega) (by omega), Int.tdiv_eq_ediv_of_nonneg (by omega)]
  have hd0 : 0 ≤ (z.most - z.least) / z.slew := Int.ediv_nonneg (by omega) (by omega)
  have hd1 : (z.most - z.least) / z.slew ≤ z.most - z.least := Int.ediv_le_self _ (by omega)
  have hd2 : z.most - z.least < ((z.most - z.least) / z.slew + 1) * z.slew := Int.lt_ediv_add_one_mul_self _ (by omega)
  rw [hd]
  generalize (z.most - z.least) / z.slew = d at hd0 hd1 hd2 ⊢
  have hx : exOK z (List.replicate z.sens.length 0) ks = false := by
    cases hx : exOK z (List.replicate z.sens.length 0) ks with
    | false => rfl
    | true =>
      have := (exOK_iff.mp hx).2.2.2
      have hm : w.tmod (z.sens.length : Int) = w % (z.sens.length : Int) := Int.tmod_eq_emod_of_nonneg hw.1
      have hm0 : 0 ≤ w % (z.sens.length : Int) := Int.emod_nonneg _ (by omega)
      have hm1 : w % (z.sens.length : Int) < (z.sens.length : Int) := Int.emod_lt_of_pos _ (by omega)
      rw [hm] at hf
      have := this (w % (z.sens.length : Int)).toNat (by omega)
      rw [hf] at this; cases this
  refine ⟨⟨z, s, d + 1, ks, hs, by omega, hk, hx, by omega⟩, ⟨⟨rfl, AV.int_inj' (by rw [wr_in d (by omega) (by omega), wr_in _ (by omega) (by omega)])⟩, ⟨rfl, rfl, rfl, rfl, rfl, rfl, rfl⟩, ⟨rfl, rfl⟩, rfl, rfl⟩, ?_⟩
  rintro ⟨z, s, n, ks, hs, hn, hk, hx, ho⟩
  dsimp only
  have hb := sd_bd hs
  have hv := hb.1
  simp only [VZ] at hv
  refine ⟨fun hc => ?_, fun hc => AV.bool_inj' ?_⟩
  · have hc := of_decide_eq_true hc
    have hl : lenOK z (List.replicate z.sens.length 0) ks = true := by simp [lenOK, hk]
    obtain ⟨e1, e2, e3⟩ := stp_unk hs hl hx
    have e4 := (step_bd hs hl).2.1
    refine ⟨fun h2 => ?_, fun _ => ⟨⟨z, stp z s (List.replicate z.sens.length 0) ks, n - 1, ks, e4, by omega, hk, hx, ?_⟩, ⟨⟨AV.int_inj' e2.symm, AV.int_inj' (by rw [wr_in _ (by omega) (by omega)])⟩, ⟨rfl, rfl, rfl, rfl, rfl, rfl, rfl⟩, ⟨rfl, rfl⟩, rfl, rfl⟩, by simp only [L6b]; omega⟩⟩
    · exfalso
      rw [e3, e1] at h2
      simp at h2
      omega
    · rw [e1, Int.sub_mul]
      have : 0 ≤ (n - 1) * z.slew := Int.mul_nonneg (by omega) (by omega)
      rw [Int.sub_mul] at this
      omega
  · have hc := of_decide_eq_false hc
    have : n = 0 := by omega
    subst this
    rw [Int.zero_mul] at ho
    exact decide_eq_true (by omega)
end Go.Proofs.Ytofldhooanikcaa
