/- A part of the proof: symbolic evaluation of the program's functions, proved sound against the model; no condition. -/
import Derived.Test.YtkpjkembnkadaaaEvWC
namespace Go.Proofs.Ytkpjkembnkadaaa
open Go Go.RowKit Go.Ev
set_option linter.unusedSimpArgs false
set_option linter.unusedVariables false
set_option maxRecDepth 20000

/-! ### WatchdogSaturates -/
def run4 (k i x : Int) : Tm := if i < k then ⟨true, k, k - i, 0, 0, false, x⟩ else ⟨false, k, 0, 0, 0, false, min (x + 1) 65535⟩
structure K4 (k : Int) where
  i : Nat
  h : (i : Int) ≤ k
def S4 (n b k : Int) (p : K4 k) : SL := ⟨[(0, .int .u16 n), (5, .int .i64 k), (6, .ptr 384 0), (8, .int .i64 p.i)], [(384, .cells (run4 k p.i n).cs)]⟩
def L4 (n b k : Int) : LI := ⟨K4 k, S4 n b k, fun p => (k - p.i).toNat, fun _ _ => True⟩
def I4 (n b k : Int) : Nat → LI := fun _ => L4 n b k
theorem I4S (n b k : Int) (f : Nat) : (I4 n b k f).S = S4 n b k := rfl
theorem I4M (n b k : Int) (f : Nat) (p) : (I4 n b k f).μ p = (k - p.i).toNat := rfl
theorem I4R (n b k : Int) (f : Nat) (p q) : (I4 n b k f).R p q = True := rfl
theorem walk4 {Phi : Nat → Option Ctr} (P7 : Phi 7 = some C7) (P8 : Phi 8 = some C8) (P9 : Phi 9 = some C9) (P10 : Phi 10 = some C10) (P11 : Phi 11 = some C11) (n b : Int) (hn : 0 ≤ n) (hn' : n ≤ 65535) (hb : 0 ≤ b) (hb' : b ≤ 255) :
    evC Phi (I4 n b (1 + b % 20)) rc4 ⟨initS [.int .u16 n, .int .u8 b], initM false []⟩ (kRet rv4 (.bool true) false []) := by
  have e1 : IntKind.i64.wrap n = n := wr_in _ (by omega) (by omega)
  have e2 : IntKind.i64.wrap b = b := wr_in _ (by omega) (by omega)
  have e3 : b.tmod 20 = b % 20 := tmod_nn _ _ hb
  have e4 : IntKind.i64.wrap (1 + b % 20) = 1 + b % 20 := wr_in _ (by omega) (by omega)
  have e5 : IntKind.i64.wrap (n + 1) = n + 1 := wr_in _ (by omega) (by omega)
  obtain ⟨k, hk⟩ : ∃ k, k = 1 + b % 20 := ⟨_, rfl⟩
  rw [← hk]
  rw [← hk] at e4
  simp only [rc4, rv4, P7, P8, P9, P10, P11, I4S, I4M, I4R, S4, Tm.cs, e1, e2, e3, e4, e5, ← hk, gvB_true, beqO_some, killO_none, killO_some, consO_some, eqaB_t, eqaB_f, andO_some, mmO_some, iasB_true, iaA_some, ldV_some, ldB_cells, valB_true, stC_true, stB_cells, bxO_some, blO_some, blS_some, faK_some, faC_some, fsK_some, fsC_some, clO_some, clQ_true, clP_some, clS_cells, clT_some, clU_true, condK_bool, kEndB_t, kEndB_f, kBlkB_t, kBlkB_f, rtO_some, rtM_cells, rvP_ptr, rvB_cells, gv_int, ungd_int, gv_bool, ungd_bool, gv_str, ungd_str, gv_agg, ungd_agg, gv_tup, ungd_tup, gv_lst, ungd_lst, gv_ep, ungd_ep, gv_ptr, ungd_ptr, gv_ap, ungd_ap, gv_vw, ungd_vw, gv_bp, ungd_bp, gv_fr, ungd_fr, gv_fn, ungd_fn, gv_nil, ungd_nil, gv_junk, ungd_junk, ungd_gd, gv_gd, kill3_int, kill0_int, kill1_int, kill3_bool, kill0_bool, kill1_bool, kill3_str, kill0_str, kill1_str, kill3_agg, kill1_agg, kill3_tup, kill3_lst, kill0_lst, kill1_lst, kill3_ep, kill0_ep, kill1_ep, kill3_ptr, kill0_ptr, kill3_ap, kill0_ap, kill3_vw, kill0_vw, kill3_bp, kill0_bp, kill3_fr, kill0_fr, kill1_fr, kill3_fn, kill0_fn, kill1_fn, kill3_nil, kill0_nil, kill1_nil, kill3_junk, kill0_junk, kill1_junk, leA_int, leV1_int, leA_bool, leV1_bool, leA_str, leV1_str, leA_agg, leA_tup, leV1_tup, leA_lst, leV1_lst, leA_ep, leV1_ep, leA_ptr, leV1_ptr, leA_ap, leV1_ap, leA_vw, leV1_vw, leA_bp, leV1_bp, leA_fr, leV1_fr, leA_fn, leV1_fn, leA_junk, leV1_junk, leA_nil, leA_nilnil, leV1_agg, leV1_nil, leAs_nil, leAs_cons, leVs_nil, leVs_cons, resV_one, resV_two, evOps_nil, evOps_cons, goOp_some, evG_no, evG_yes, gG_some, pathG_bool, pathG_gd, guardR_q, guardR_u, guardU_some, guardL_nil, guardL_cons, pathP_nil, pathP_cons, pathB_nil, pathB_cons, boolOf_bool, boolOf_gd, askL_nil, askL_cons, knowL_nil, knowL_cons, put_q, put_u, put_n, put_s, upd_at, updM_at, killS_at, ungdS_at, killM_at, killB_cells, kill3_gd', av_t, av_c, ar_t, ar_c, avs_nil, avs_cons, bind1_some', bind2_some', ev_mov, ev_not, ev_neg, ev_conv, ev_extract, ev_nilchk, un1_mov, un1_not, un1_neg, un1_conv, un1_nilchk, un1_extract, toR_some', ev_pick, pick3_some, pickV_bool, ev_arith, arith_add, arith_sub, arith_mul, arith_and, arith_or, arith_xor, arith_andNot, arith_quo, arith_rem, ev_cmp, cmp2_some, cmp_eql, cmp_neq, cmp_lss, cmp_leq, cmp_gtr, cmp_geq, cmp_eqlB, cmp_neqB, cmp_eqlS, cmp_neqS, ev_eqa, eqa2_some, eqaR_agg, eqC_nil, eqC_int, eqC_bool, eqC_str, ev_len, len_lst, len_nil, len_str, ev_minmax, mm_nil, mm_max, mm_min, ev_faddr, faddr_ptr, faddr_ep, ev_iaddrS, iaddrS_lst, ev_iaddrA, iaddrA_ptr, ev_load, load_ptr, load_ep, valOf_agg, valOf_one, ev_store, store_ptr, setC_nil, setC_cons, cells_agg, cells_int, cells_bool, cells_str, cells_lst, cells_ep, cells_ptr, cells_ap, cells_vw, cells_bp, cells_fr, cells_fn, cells_nil, ev_alloc, ev_box, boxR_eq, ev_build, ev_bslice, fillA_nil, fillA_cons, fillS_nil, fillS_cons, ev_call, call_pure, call_state, c0_int, c1_int, c2_int, c0_bool, c1_bool, c2_bool, c0_str, c1_str, c2_str, c0_lst, c1_lst, c2_lst, c0_fn, c1_fn, c2_fn, c0_nil, c1_nil, c2_nil, c1_agg, c2_agg, c2_tup, evC_skip, evC_region, evC_seq, evC_cond, evC_block, evC_loop, evC_exit, evC_ret, kEnd_at, hasG_nil, hasG_no, hasG_yes, kSeq_n, kSeq_e, kSeq_r, kBlk_n, kBlk_r, kBlk_e, kLoop_n, kLoop_e, kLoop_r, kRet_r, kRet_n, retOK_f, retOK_t, retL_nil, retL_cons, retV_t, retV_c, initM_f, initM_t, initS_at, lookL_nil, lookL_cons, lookM_nil, lookM_cons, SL_st, SL_ge, leL_nil, leL_cons, leM_nil, leM_cons, reduceIte, Nat.reduceEqDiff, Nat.reduceMul, Nat.reduceAdd, Nat.reduceBEq, Option.getD_some, Option.getD_none, List.length_cons, List.length_nil, List.getElem?_cons_succ, List.getElem?_cons_zero, List.drop_zero, List.drop_succ_cons, List.take_succ_cons, List.take_zero, List.map_cons, List.map_nil, List.all_cons, List.all_nil, List.contains_cons, List.contains_nil, List.nil_append, List.cons_append, List.set_cons_zero, List.set_cons_succ, List.replicate_succ, List.replicate_zero, List.getD_cons_zero, List.getD_cons_succ, beq_self_eq_true, Bool.and_self, Bool.or_false, Bool.true_or, Bool.or_true, Bool.and_true, Bool.true_and, Bool.cond_true_left, Bool.cond_false_right, and_true, true_and, true_imp_iff, and_self, imp_self, implies_true, Nat.reduceLeDiff, decide_true, decide_false, if_true, if_false, Nat.zero_mul, Nat.add_zero, Nat.zero_add, Int.toNat_natCast, Int.reduceToNat, Int.reduceLE, Int.reduceLT, Bool.not_true, Bool.not_false, Bool.false_eq_true, Bool.true_eq_false, false_imp_iff, List.length_map, getE_u8, u8s_len, C7, C8, C9, C10, C11, C16, Tm.av, Tm.eta]
  have hk1 : 1 ≤ k := by omega
  have hk2 : k ≤ 20 := by omega
  clear hk e1 e2 e3 e4 e5
  have hv0 : valid (fresh k 0 0) = true := (valid_iff _).mpr (by simp [fresh]; omega)
  have hN : newT k 0 0 = fresh k 0 0 := by simp [newT, hv0]
  have hE : newE k 0 0 = 0 := by simp [newE, hv0]
  rw [hN, hE]
  refine ⟨by decide, fun h => by simp [fresh] at h, fun _ => ⟨⟨0, by omega⟩, ⟨rfl, ?_⟩, ?_⟩⟩
  · refine congrArg some (congrArg Blk.cells (cell_av _ _ ?_))
    have g1 : valid ⟨false, k, 0, 0, 0, false, n⟩ = true := (valid_iff _).mpr (by simp; omega)
    have g2 : decide (k > 0) = true := by simp; omega
    have g3 : (0:Int) < k := by omega
    show start ⟨false, k, 0, 0, 0, false, n⟩ = run4 k 0 n
    simp only [start, g1, g2, run4]
    simp [g3]
  · rintro ⟨i, hi⟩
    dsimp only
    refine ⟨fun h => ?_, fun h => ?_⟩
    · have h := of_decide_eq_true h
      have hv : valid ⟨true, k, k - i, 0, 0, false, n⟩ = true := (valid_iff _).mpr (by simp; omega)
      refine ⟨⟨i + 1, by omega⟩, ⟨AV.int_inj' (by rw [wr_in _ (by omega) (by omega)]; rfl), ?_⟩, ?_⟩
      · refine congrArg some (congrArg Blk.cells (cell_av _ _ ?_))
        have e1 : run4 k i n = ⟨true, k, k - i, 0, 0, false, n⟩ := by simp [run4, h]
        rw [e1]
        simp only [stepT, hv]
        by_cases h2 : k - (i:Int) = 1
        · have h3 : ¬ ((i:Int) + 1 < k) := by omega
          simp [h2, run4, h3]
        · have h3 : (i:Int) + 1 < k := by omega
          have h4 : ¬ (k - (i:Int) - 1 = 0) := by omega
          simp [h2, run4, h3, h4]; omega
      · show (k - ((i + 1 : Nat) : Int)).toNat < (k - (i : Int)).toNat
        omega
    · have h := of_decide_eq_false h
      have e1 : run4 k i n = ⟨false, k, 0, 0, 0, false, min (n + 1) 65535⟩ := by simp [run4, h]
      have hv : valid ⟨false, k, 0, 0, 0, false, min (n + 1) 65535⟩ = true := (valid_iff _).mpr (by simp; omega)
      rw [e1, hv]
      simp
end Go.Proofs.Ytkpjkembnkadaaa
