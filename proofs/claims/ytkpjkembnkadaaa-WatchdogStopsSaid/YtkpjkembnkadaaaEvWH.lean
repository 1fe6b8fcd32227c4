/- A part of the proof: symbolic evaluation of the program's functions, proved sound against the model; no condition. -/
import Derived.Test.YtkpjkembnkadaaaEvWC
namespace Go.Proofs.Ytkpjkembnkadaaa
open Go Go.RowKit Go.Ev
set_option linter.unusedSimpArgs false
set_option linter.unusedVariables false
set_option maxRecDepth 20000

/-! ### WatchdogStops -/
structure K6 where
  t : Tm
  i : Nat
  hv : valid t = true
def S6 (cs : List Int) (p : K6) : SL := ⟨[(2, .lst [.int .u8 0] (u8s cs)), (7, .ptr 448 0), (9, .int .i64 p.i)], [(448, .cells p.t.cs)]⟩
def L6 (cs : List Int) : LI := ⟨K6, S6 cs, fun p => 200 - p.i, fun _ _ => True⟩
def I6 (cs : List Int) : Nat → LI := fun _ => L6 cs
theorem I6S (cs : List Int) (f : Nat) : (I6 cs f).S = S6 cs := rfl
theorem I6M (cs : List Int) (f : Nat) (p) : (I6 cs f).μ p = 200 - p.i := rfl
theorem I6R (cs : List Int) (f : Nat) (p q) : (I6 cs f).R p q = True := rfl
theorem walk6 {Phi : Nat → Option Ctr} (P7 : Phi 7 = some C7) (P8 : Phi 8 = some C8) (P9 : Phi 9 = some C9) (P10 : Phi 10 = some C10) (P11 : Phi 11 = some C11) (P16 : Phi 16 = some C16) (a b : Int) (cs : List Int) (ha : 0 ≤ a) (ha' : a ≤ 255) (hb : 0 ≤ b) (hb' : b ≤ 255) (hk : ∀ k ∈ cs, 0 ≤ k ∧ k ≤ 255) :
    evC Phi (I6 cs) rc6 ⟨initS [.int .u8 a, .int .u8 b, .lst [.int .u8 0] (u8s cs)], initM false []⟩ (kRet rv6 (.bool true) false []) := by
  have e1 : IntKind.i64.wrap a = a := wr_in _ (by omega) (by omega)
  have e2 : IntKind.i64.wrap b = b := wr_in _ (by omega) (by omega)
  simp only [rc6, rv6, P7, P8, P9, P10, P11, P16, I6S, I6M, I6R, S6, Tm.cs, e1, e2, gvB_true, beqO_some, killO_none, killO_some, consO_some, eqaB_t, eqaB_f, andO_some, mmO_some, iasB_true, iaA_some, ldV_some, ldB_cells, valB_true, stC_true, stB_cells, bxO_some, blO_some, blS_some, faK_some, faC_some, fsK_some, fsC_some, clO_some, clQ_true, clP_some, clS_cells, clT_some, clU_true, condK_bool, kEndB_t, kEndB_f, kBlkB_t, kBlkB_f, rtO_some, rtM_cells, rvP_ptr, rvB_cells, gv_int, ungd_int, gv_bool, ungd_bool, gv_str, ungd_str, gv_agg, ungd_agg, gv_tup, ungd_tup, gv_lst, ungd_lst, gv_ep, ungd_ep, gv_ptr, ungd_ptr, gv_ap, ungd_ap, gv_vw, ungd_vw, gv_bp, ungd_bp, gv_fr, ungd_fr, gv_fn, ungd_fn, gv_nil, ungd_nil, gv_junk, ungd_junk, ungd_gd, gv_gd, kill3_int, kill0_int, kill1_int, kill3_bool, kill0_bool, kill1_bool, kill3_str, kill0_str, kill1_str, kill3_agg, kill1_agg, kill3_tup, kill3_lst, kill0_lst, kill1_lst, kill3_ep, kill0_ep, kill1_ep, kill3_ptr, kill0_ptr, kill3_ap, kill0_ap, kill3_vw, kill0_vw, kill3_bp, kill0_bp, kill3_fr, kill0_fr, kill1_fr, kill3_fn, kill0_fn, kill1_fn, kill3_nil, kill0_nil, kill1_nil, kill3_junk, kill0_junk, kill1_junk, leA_int, leV1_int, leA_bool, leV1_bool, leA_str, leV1_str, leA_agg, leA_tup, leV1_tup, leA_lst, leV1_lst, leA_ep, leV1_ep, leA_ptr, leV1_ptr, leA_ap, leV1_ap, leA_vw, leV1_vw, leA_bp, leV1_bp, leA_fr, leV1_fr, leA_fn, leV1_fn, leA_junk, leV1_junk, leA_nil, leA_nilnil, leV1_agg, leV1_nil, leAs_nil, leAs_cons, leVs_nil, leVs_cons, resV_one, resV_two, evOps_nil, evOps_cons, goOp_some, evG_no, evG_yes, gG_some, pathG_bool, pathG_gd, guardR_q, guardR_u, guardU_some, guardL_nil, guardL_cons, pathP_nil, pathP_cons, pathB_nil, pathB_cons, boolOf_bool, boolOf_gd, askL_nil, askL_cons, knowL_nil, knowL_cons, put_q, put_u, put_n, put_s, upd_at, updM_at, killS_at, ungdS_at, killM_at, killB_cells, kill3_gd', av_t, av_c, ar_t, ar_c, avs_nil, avs_cons, bind1_some', bind2_some', ev_mov, ev_not, ev_neg, ev_conv, ev_extract, ev_nilchk, un1_mov, un1_not, un1_neg, un1_conv, un1_nilchk, un1_extract, toR_some', ev_pick, pick3_some, pickV_bool, ev_arith, arith_add, arith_sub, arith_mul, arith_and, arith_or, arith_xor, arith_andNot, arith_quo, arith_rem, ev_cmp, cmp2_some, cmp_eql, cmp_neq, cmp_lss, cmp_leq, cmp_gtr, cmp_geq, cmp_eqlB, cmp_neqB, cmp_eqlS, cmp_neqS, ev_eqa, eqa2_some, eqaR_agg, eqC_nil, eqC_int, eqC_bool, eqC_str, ev_len, len_lst, len_nil, len_str, ev_minmax, mm_nil, mm_max, mm_min, ev_faddr, faddr_ptr, faddr_ep, ev_iaddrS, iaddrS_lst, ev_iaddrA, iaddrA_ptr, ev_load, load_ptr, load_ep, valOf_agg, valOf_one, ev_store, store_ptr, setC_nil, setC_cons, cells_agg, cells_int, cells_bool, cells_str, cells_lst, cells_ep, cells_ptr, cells_ap, cells_vw, cells_bp, cells_fr, cells_fn, cells_nil, ev_alloc, ev_box, boxR_eq, ev_build, ev_bslice, fillA_nil, fillA_cons, fillS_nil, fillS_cons, ev_call, call_pure, call_state, c0_int, c1_int, c2_int, c0_bool, c1_bool, c2_bool, c0_str, c1_str, c2_str, c0_lst, c1_lst, c2_lst, c0_fn, c1_fn, c2_fn, c0_nil, c1_nil, c2_nil, c1_agg, c2_agg, c2_tup, evC_skip, evC_region, evC_seq, evC_cond, evC_block, evC_loop, evC_exit, evC_ret, kEnd_at, hasG_nil, hasG_no, hasG_yes, kSeq_n, kSeq_e, kSeq_r, kBlk_n, kBlk_r, kBlk_e, kLoop_n, kLoop_e, kLoop_r, kRet_r, kRet_n, retOK_f, retOK_t, retL_nil, retL_cons, retV_t, retV_c, initM_f, initM_t, initS_at, lookL_nil, lookL_cons, lookM_nil, lookM_cons, SL_st, SL_ge, leL_nil, leL_cons, leM_nil, leM_cons, reduceIte, Nat.reduceEqDiff, Nat.reduceMul, Nat.reduceAdd, Nat.reduceBEq, Option.getD_some, Option.getD_none, List.length_cons, List.length_nil, List.getElem?_cons_succ, List.getElem?_cons_zero, List.drop_zero, List.drop_succ_cons, List.take_succ_cons, List.take_zero, List.map_cons, List.map_nil, List.all_cons, List.all_nil, List.contains_cons, List.contains_nil, List.nil_append, List.cons_append, List.set_cons_zero, List.set_cons_succ, List.replicate_succ, List.replicate_zero, List.getD_cons_zero, List.getD_cons_succ, beq_self_eq_true, Bool.and_self, Bool.or_false, Bool.true_or, Bool.or_true, Bool.and_true, Bool.true_and, Bool.cond_true_left, Bool.cond_false_right, and_true, true_and, true_imp_iff, and_self, imp_self, implies_true, Nat.reduceLeDiff, decide_true, decide_false, if_true, if_false, Nat.zero_mul, Nat.add_zero, Nat.zero_add, Int.toNat_natCast, Int.reduceToNat, Int.reduceLE, Int.reduceLT, Bool.not_true, Bool.not_false, Bool.false_eq_true, Bool.true_eq_false, false_imp_iff, List.length_map, getE_u8, u8s_len, C7, C8, C9, C10, C11, C16, Tm.av, Tm.eta]
  have hst : ∀ t : Tm, valid t = true → valid (start t) = true := by
    intro t h
    have hv := (valid_iff t).mp h
    by_cases h2 : t.i > 0
    · refine (valid_iff _).mpr ?_
      simp only [start, h, Bool.true_and, decide_eq_true_eq, if_pos h2]
      simp; omega
    · simp only [start, h, Bool.true_and, decide_eq_true_eq, if_neg h2]
  have hsp : ∀ t : Tm, valid t = true → valid (stop t) = true := by
    intro t h
    have hv := (valid_iff t).mp h
    refine (valid_iff _).mpr ?_
    simp only [stop, h]
    simp; omega
  have hsx : ∀ t : Tm, valid t = true → valid (stepT t) = true := by
    intro t h
    have hv := (valid_iff t).mp h
    cases hr : t.r with
    | false => simpa [stepT, hr] using h
    | true =>
      have hl := hv.2.2.2.2.2.2.1 hr
      refine (valid_iff _).mpr ?_
      simp only [stepT, h, hr]
      by_cases h1 : t.l = 1
      · simp [h1]; omega
      · by_cases h2 : t.l - 1 = t.e <;> simp [h1, h2, hr] <;> omega
  have hwx : ∀ t : Tm, ((stepW t || stepX t) && !t.r) = false := by
    intro t; cases h : t.r <;> simp [stepW, stepX, h]
  refine ⟨fun h => ?_, fun h => ?_⟩
  · have h1 : valid (fresh a b 2) = false := by
      cases hv : valid (fresh a b 2) with
      | false => rfl
      | true => simp [newE, hv] at h
    refine AV.bool_inj' ?_
    by_cases h2 : b ≠ 0 ∧ a ≤ b
    · simp; omega
    · have := (valid_iff (fresh a b 2)).mpr (by simp [fresh]; omega)
      rw [h1] at this; cases this
  · have h1 : valid (fresh a b 2) = true := by
      cases hv : valid (fresh a b 2) with
      | true => rfl
      | false => simp [newE, hv] at h
    have hN : newT a b 2 = fresh a b 2 := by simp [newT, h1]
    refine ⟨⟨newT a b 2, 0, by rw [hN]; exact h1⟩, ⟨rfl, rfl⟩, ?_⟩
    rintro ⟨t, i, hv⟩ hlen hc
    dsimp only at hc ⊢
    simp only [Bool.and_eq_true, decide_eq_true_eq] at hc
    refine ⟨by omega, fun _ => ⟨by decide, ?_⟩⟩
    have hw : IntKind.i64.wrap ((i:Int) + 1) = ((i + 1 : Nat) : Int) := by rw [wr_in _ (by omega) (by omega)]; rfl
    rw [hw, hst t hv, hsp t hv, hsx t hv, hwx t]
    have go : ∀ s : Tm, valid s = true → (((!true || false) = true → AV.bool false = AV.bool true) ∧ ((!true || false) = false → ∃ j : K6, (AV.int IntKind.i64 ((i + 1 : Nat) : Int) = AV.int IntKind.i64 ↑j.i ∧
                                    some
                                        (Blk.cells
                                          [AV.bool s.r, AV.int IntKind.i64 s.i,
                                            AV.int IntKind.i64 s.l, AV.int IntKind.i64 s.e,
                                            AV.int IntKind.i64 s.a, AV.bool s.w,
                                            AV.int IntKind.i64 s.x]) =
                                      some
                                        (Blk.cells
                                          [AV.bool j.t.r, AV.int IntKind.i64 j.t.i, AV.int IntKind.i64 j.t.l,
                                            AV.int IntKind.i64 j.t.e, AV.int IntKind.i64 j.t.a, AV.bool j.t.w,
                                            AV.int IntKind.i64 j.t.x])) ∧
                                  200 - j.i < 200 - i)) := by
      intro s hs
      exact ⟨fun h => by simp at h, fun _ => ⟨⟨s, i + 1, hs⟩, ⟨rfl, rfl⟩, by show 200 - (i + 1) < 200 - i; omega⟩⟩
    exact ⟨fun _ => go _ (hst t hv), fun _ => ⟨fun _ => go _ (hsp t hv), fun _ => go _ (hsx t hv)⟩⟩
end Go.Proofs.Ytkpjkembnkadaaa
