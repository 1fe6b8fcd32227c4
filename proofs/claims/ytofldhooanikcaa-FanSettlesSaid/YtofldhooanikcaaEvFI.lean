/- A part of the proof: symbolic evaluation of the program's functions, proved sound against the model; no condition. -/
import Derived.Test.YtofldhooanikcaaEvFH
import Derived.Test.YtofldhooanikcaaEvFJ
namespace Go.Proofs.Ytofldhooanikcaa
open Go Go.RowKit Go.Ev
set_option linter.unusedSimpArgs false
set_option linter.unusedVariables false
set_option maxRecDepth 20000

/-- The state of the loop of FanBounds. -/
structure K4 where
  at' : Int
  n : Nat
  z : Zn
  s : Sp
  ha : 0 ≤ at'
  hn : n ≤ 20
  hz : GZ z
  hs : sd z s = true
def S4 (L : List Int) (p : K4) : SL := ⟨[(3, .ptr 1216 0), (4, .ptr 320 0), (5, .ptr 384 0), (7, .int .i64 p.n)], [(320, .cells p.z.cs), (384, .cells p.s.cs), (1216, .cells [.lst [.int .u8 0] (u8s L), .int .i64 p.at'])]⟩
def L4 (L : List Int) : LI := ⟨K4, S4 L, fun p => 20 - p.n, fun _ _ => True⟩
def I4 (L : List Int) : Nat → LI := fun _ => L4 L
theorem I4S (L : List Int) (f : Nat) : (I4 L f).S = S4 L := rfl
theorem I4M (L : List Int) (f : Nat) (p : K4) : (I4 L f).μ p = 20 - p.n := rfl
theorem I4R (L : List Int) (f : Nat) (p q) : (I4 L f).R p q = True := rfl
theorem Sp.eta (s : Sp) : Sp.mk s.out s.sum = s := rfl
theorem okb_take {L : List Int} (h : Okb L) (n : Nat) : Okb (L.take n) := fun x hx => h x (List.mem_of_mem_take hx)
set_option maxHeartbeats 4000000 in
theorem walk4 {Phi : Nat → Option Ctr} (P9 : Phi 9 = some CAwake) (P10 : Phi 10 = some CNw) (P11 : Phi 11 = some CZo) (P13 : Phi 13 = some CRd) (P16 : Phi 16 = some CSt) (P17 : Phi 17 = some CV) (P18 : Phi 18 = some CSp) (P19 : Phi 19 = some CSd) (P20 : Phi 20 = some CEx) (L : List Int) (hL : Okb L) : evC Phi (I4 (L.take 200)) rc4 ⟨initS [.lst [.int .u8 0] (u8s L)], initM false []⟩ (kRet rv4 (.bool true) false []) := by
  simp (config := {maxSteps := 2000000}) only [rc4, initM_f, rv4, evC_seq, evC_region, eo_mov, evG_no, Option.getD_some, ev_mov, av_c, gv_bool, bind1_some', un1_mov, goOp_some, put_q, evOps_nil, kEnd_at, hasG_no, hasG_nil, kEndB_f, kSeq_n, eo_call, P9, CAwake, evCl_mk, ev_call, avs_nil, clO_some, call_pure, lends_nil, callN_some, callP_some, List.nil_append, c2_bool, flat2_bool, backOK_nil, Bool.and_self, clQ_t, eo_not, ev_not, av_t, upd_at, Nat.reduceEqDiff, initS_at, List.getD_cons_succ, if_false, if_true, un1_not, Bool.not_true, evC_cond, evC_ret, kSeq_r, kRet_r, retOK_eq, retL_cons, retV_t, retL_nil, consO_some, lkR_one, lk1_bool, lkT_f, applyL_nil, retOK_f, rtO_some, resV_one, leV1_bool, and_true, knowL_nil, askL_nil, evC_skip, List.getD_cons_zero, gv_lst, P10, CNw, evCl_ext, avs_cons, gv_int, evXV_some, evX_f, lends_cons, lend1_lst, lend1_int, consL_some', evXA_some, decU_u8s, and_self, Int.reduceLE, Int.reduceToNat, evXN_some, evXP_eq, wfX2_fp, List.all_cons, c0_lst, c0_int, List.all_nil, frs2_fp, idsOK_eq, List.map_cons, List.map_nil, nodupN_cons, List.contains_nil, Bool.not_false, nodupN_nil, Nat.reduceLT, decide_true, flatX2_fp, flat0_lst, flat0_int, Bool.and_true, flatL_cells, flatL_nil, backX_nil, putX_eq, unfr2_fp, Nat.reduceMul, Nat.reduceAdd, Nat.add_zero, addF_cons, addF_nil, putY_eq, killS_at, gv_ptr, P11, CZo, Zn.av, eo_alloc, ev_alloc, eo_store, evX_t, updM_at, killM_at, killO_none, evXC_cells, evXB_some, true_and, evXM_some, evXS_eq, wfX2_agg, wfX0_lst, wfX0_int, frs2_agg, frsL_cons, frs0_lst, frs0_int, frsL_nil, flatX2_agg, flatX0_lst, flatX0_int, setB_eq, unfr2_agg, unfr0_lst, unfr0_int, put_n, killB_cells, kill0_nil, kill0_int, ar_t, kill3_agg, kill0_lst, vwsT_ptr, frzL_nil, goF_eq, Option.getD_none, ev_store, gv_agg, bind2_some', store_ptr, cells_agg, List.length_cons, List.length_nil, Nat.zero_add, stB_cells, Nat.reduceLeDiff, stC_true, setC_cons, List.set_cons_zero, List.set_cons_succ, setC_nil, put_s, eo_load, ev_load, load_ptr, ldB_cells, valOf_agg, valB_true, List.drop_zero, List.take_succ_cons, List.take_zero, ldV_some, P16, CSt, Sp.av, lend1_agg, lendC_cons, lendA_lst, lendA_int, lendC_nil, aggL_some, Zn.eta, c2_tup, c1_agg, c1_int, flat2_tup, flat1_agg, flat1_int, gv_tup, eo_extract, ev_extract, un1_extract, List.getElem?_cons_zero, toR_some', List.getElem?_cons_succ, kill3_int, eo_cmp, ev_cmp, cmp2_some, cmp_neq, kill3_ptr, killO_some, P17, CV, kill3_bool, askL_cons, evC_block, evC_loop, I4S, S4, Zn.cs, Sp.cs, SL_ge, lkL_cons, lkS_ptr, lkS_int, lkL_nil, lkM_cons, lkB_cells, lkC_cons, lkC0_lst, lkC0_int, lkC_nil, lkM_nil, SL_ge0, leL_cons, leV1_ptr, leV1_int, leL_nil, leM_cons, leB_cells, leAs_cons, leA_lst, leA_int, leAs_nil, leM_nil, I4R, SL_st, lookL_cons, lookL_nil, cmp_lss, lookM_cons, lookM_nil, P13, CRd, wfX2_tup, wfX1_fr, frs2_tup, frsV_cons, frs1_fr, frsV_nil, List.cons_append, List.contains_cons, Nat.reduceBEq, Bool.or_false, flatX2_tup, flatX1_fr, flatC_int, flatC_bool, Bool.true_and, flatL_buf, unfr2_tup, unfr1_fr, kill3_junk, gv_vw, P18, CSp, lend1_vw, killB_buf, lendB_buf, decI_i64s, decB_bls, Sp.eta, backOK_cons, cmp_eql, evG_yes, pathG_bool, gG_some, kill3_vw, guardR_q, guardL_nil, eo_len, ev_len, gv_gd, beq_self_eq_true, gvB_true, len_vw, lenV_buf, i64s_len, eo_faddr, ev_faddr, faddr_ptr, valOf_one, len_lst, u8s_len, eo_pick, ev_pick, pick3_some, pickV_bool, Bool.cond_false_right, hasG_yes, kEndB_t, evC_exit, kSeq_e, kBlk_e, kBlkB_t, ungdS_at, ungd_int, eo_arith, ev_arith, ungd_junk, arith_add, kLoop_n, ungd_ptr, arith_sub, Bool.cond_true_left, cmp_gtr, eo_neg, ev_neg, un1_neg, eo_call_g, P19, CSd, guardL_cons, pathP_cons, boolOf_bool, pathP_nil, implies_true, kBlk_r, kLoop_r, ungd_vw, P20, CEx, c1_bool, flat1_bool, pathG_gd, Bool.true_or, Bool.or_true, eo_minmax, ev_minmax, mmO_some, mm_min, mm_nil, kBlk_n, ungd_bool, condK_bool, kLoop_e, true_imp_iff, Bool.false_eq_true, false_imp_iff]
  intro _
  refine ⟨okb_take hL _, fun q ⟨hz, ha⟩ => ⟨fun h => ?_, fun h => ?_⟩⟩
  · cases hv : vz q.1 with
    | false => rfl
    | true => rw [hv] at h; exact absurd h (by decide)
  have hv : vz q.1 = true := by
    cases hv : vz q.1 with
    | true => rfl
    | false => rw [hv] at h; exact absurd h (by decide)
  refine ⟨⟨q.2, 0, q.1, stt q.1, ha, by omega, hz, stt_sd hv⟩, ⟨rfl, ⟨rfl, rfl, rfl, rfl, rfl, rfl, rfl⟩, ⟨rfl, rfl⟩, rfl⟩, ?_⟩
  rintro ⟨at', n, z, s, ha, hn, hz, hs⟩ hc
  have hc := of_decide_eq_true hc
  dsimp only at hc ⊢
  refine ⟨⟨⟨okb_take hL _, ha⟩, hz⟩, ?_⟩
  rintro ⟨rs, ks, at2⟩ ⟨hr, ha2⟩
  dsimp only at hr ha2 ⊢
  have hn1 : IntKind.i64.wrap ((n : Int) + 1) = ((n + 1 : Nat) : Int) := by rw [wr_in _ (by omega) (by omega)]; omega
  rw [hn1]
  refine ⟨fun h1 => ⟨⟨at2, n + 1, z, s, ha2, by omega, hz, hs⟩, ⟨rfl, ⟨rfl, rfl, rfl, rfl, rfl, rfl, rfl⟩, ⟨rfl, rfl⟩, rfl⟩, by simp only [I4M]; omega⟩, fun h1 => ?_⟩
  have hl : lenOK z rs ks = true := by
    cases hl : lenOK z rs ks with
    | true => rfl
    | false =>
      have e2 : stpE z s rs ks = 2 := by simp [stpE, hs, hl]
      simp only [e2, decide_true, Bool.true_and, Bool.not_eq_false', decide_eq_true_eq] at h1
      have h3 := hr.k
      simp [lenOK] at hl
      omega
  obtain ⟨f1, f2, f3, f4⟩ := step_bd hs hl
  have hb := sd_bd hs
  have hb2 := sd_bd f2
  have hv := hb.1
  simp only [VZ] at hv
  generalize ho : (stp z s rs ks).out = o at *
  rw [wr_in (o - s.out) (by omega) (by omega), wr_in (0 - (o - s.out)) (by omega) (by omega), wr_in (s.out + z.slew) (by omega) (by omega)]
  refine ⟨fun h2 => ?_, fun h2 => ⟨fun h3 => ?_, fun h3 => ⟨⟨at2, n + 1, z, stp z s rs ks, ha2, by omega, hz, f2⟩, ⟨rfl, ⟨rfl, rfl, rfl, rfl, rfl, rfl, rfl⟩, ⟨AV.int_inj' ho.symm, rfl⟩, rfl⟩, by simp only [I4M]; omega⟩⟩⟩
  · exfalso
    rw [f2, f1] at h2
    simp at h2
    omega
  · exfalso
    cases hx : exOK z rs ks with
    | true => rw [hx] at h3; simp at h3
    | false =>
      obtain ⟨e1, e2, e3⟩ := stp_unk hs hl hx
      rw [hx, e2] at h3
      simp at h3
      omega
end Go.Proofs.Ytofldhooanikcaa
