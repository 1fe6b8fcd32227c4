/- A part of the proof: symbolic evaluation of the program's functions, proved sound against the model; no condition. -/
import Derived.Test.YtkpjkembnkadaaaEvWC
namespace Go.Proofs.Ytkpjkembnkadaaa
open Go Go.RowKit Go.Ev
set_option linter.unusedSimpArgs false
set_option linter.unusedVariables false
set_option maxRecDepth 20000

/-- The timer of n ticks (and the warning m ahead), i ticks after it was started. -/
def run (n m i : Int) (x : Int) : Tm := ⟨true, n, n - i, m, 3, decide (n - i ≤ m), x⟩
structure K0 (n m : Int) where
  t : Tm
  k : Nat
  hv : valid t = true
  hi : t.i = n
  he : t.e = m
  ha : t.a = 3
  hx : t.x = 0
def S30 (n m : Int) (ks : List Int) (p : K0 n m) : SL := ⟨[(2, .lst [.int .u8 0] (u8s ks)), (7, .int .i64 n), (8, .int .i64 m), (9, .ptr 576 0), (11, .int .i64 p.k)], [(576, .cells p.t.cs)]⟩
structure K1 (n m : Int) (ks : List Int) where
  k : Nat
  i : Nat
  hk : k < ks.length
  hk2 : k < 10
  hi : (i : Int) ≤ (ks.getD k 0) % n
def S31 (n m : Int) (ks : List Int) (p : K1 n m ks) : SL := ⟨[(2, .lst [.int .u8 0] (u8s ks)), (7, .int .i64 n), (8, .int .i64 m), (9, .ptr 576 0), (11, .int .i64 p.k), (12, .int .i64 p.i)], [(576, .cells (run n m p.i 0).cs)]⟩
structure K2 (n m : Int) where
  i : Nat
  h1 : 1 ≤ i
  h2 : (i : Int) ≤ n + 1
def at3 (n m : Int) (i : Nat) : Tm := if (i : Int) ≤ n then run n m (i - 1) 0 else ⟨false, n, 0, m, 3, false, 1⟩
def S32 (n m : Int) (p : K2 n m) : SL := ⟨[(7, .int .i64 n), (8, .int .i64 m), (9, .ptr 576 0), (16, .int .i64 p.i)], [(576, .cells (at3 n m p.i).cs)]⟩
def L30 (n m : Int) (ks : List Int) : LI := ⟨K0 n m, S30 n m ks, fun p => ks.length - p.k, fun _ _ => True⟩
def L31 (n m : Int) (ks : List Int) : LI := ⟨K1 n m ks, S31 n m ks, fun p => 256 - p.i, fun p q => q.k = p.k⟩
def L32 (n m : Int) : LI := ⟨K2 n m, S32 n m, fun p => (n + 1).toNat - p.i, fun _ _ => True⟩
def I3 (n m : Int) (ks : List Int) : Nat → LI := fun f => match f with
  | 0 => L30 n m ks
  | 1 => L31 n m ks
  | _ => L32 n m
theorem I30 (n m : Int) (ks : List Int) : I3 n m ks 0 = L30 n m ks := rfl
theorem I31 (n m : Int) (ks : List Int) : I3 n m ks 1 = L31 n m ks := rfl
theorem I32 (n m : Int) (ks : List Int) : I3 n m ks 2 = L32 n m := rfl
theorem L30S (n m : Int) (ks : List Int) : (L30 n m ks).S = S30 n m ks := rfl
theorem L31S (n m : Int) (ks : List Int) : (L31 n m ks).S = S31 n m ks := rfl
theorem L32S (n m : Int) : (L32 n m).S = S32 n m := rfl
theorem L30R (n m : Int) (ks : List Int) (p q) : (L30 n m ks).R p q = True := rfl
theorem L31R (n m : Int) (ks : List Int) (p q) : (L31 n m ks).R p q = (q.k = p.k) := rfl
theorem L32R (n m : Int) (p q) : (L32 n m).R p q = True := rfl
theorem L30M (n m : Int) (ks : List Int) (p) : (L30 n m ks).μ p = ks.length - p.k := rfl
theorem L31M (n m : Int) (ks : List Int) (p) : (L31 n m ks).μ p = 256 - p.i := rfl
theorem L32M (n m : Int) (p) : (L32 n m).μ p = (n + 1).toNat - p.i := rfl
theorem walk3 {Phi : Nat → Option Ctr} (P7 : Phi 7 = some C7) (P8 : Phi 8 = some C8) (P9 : Phi 9 = some C9) (P10 : Phi 10 = some C10) (a b : Int) (ks : List Int) (ha : 0 ≤ a) (ha' : a ≤ 65535) (hb : 0 ≤ b) (hb' : b ≤ 65535) (hk : ∀ k ∈ ks, 0 ≤ k ∧ k ≤ 255) (hl : ks.length ≤ 9223372036854775807) :
    evC Phi (I3 (2 + a % 300) (b % (2 + a % 300)) ks) rc3 ⟨initS [.int .u16 a, .int .u16 b, .lst [.int .u8 0] (u8s ks)], initM false []⟩ (kRet rv3 (.bool true) false []) := by
  have e1 : IntKind.i64.wrap a = a := wr_in _ (by omega) (by omega)
  have e2 : IntKind.i64.wrap b = b := wr_in _ (by omega) (by omega)
  have e3 : a.tmod 300 = a % 300 := tmod_nn _ _ ha
  have e4 : IntKind.i64.wrap (2 + a % 300) = 2 + a % 300 := wr_in _ (by omega) (by omega)
  have e5 : b.tmod (2 + a % 300) = b % (2 + a % 300) := tmod_nn _ _ hb
  obtain ⟨n, hn⟩ : ∃ n, n = 2 + a % 300 := ⟨_, rfl⟩
  obtain ⟨m, hm⟩ : ∃ m, m = b % (2 + a % 300) := ⟨_, rfl⟩
  rw [← hm, ← hn]
  rw [← hm, ← hn] at e5
  rw [← hn] at e4
  simp only [rc3, rv3, P7, P8, P9, P10, I30, I31, I32, L30S, L31S, L32S, L30M, L31M, L32M, L30R, L31R, L32R, S30, S31, S32, Tm.cs, e1, e2, e3, e4, e5, ← hn, gvB_true, beqO_some, killO_none, killO_some, consO_some, eqaB_t, eqaB_f, andO_some, mmO_some, iasB_true, iaA_some, ldV_some, ldB_cells, valB_true, stC_true, stB_cells, bxO_some, blO_some, blS_some, faK_some, faC_some, fsK_some, fsC_some, clO_some, clQ_true, clP_some, clS_cells, clT_some, clU_true, condK_bool, kEndB_t, kEndB_f, kBlkB_t, kBlkB_f, rtO_some, rtM_cells, rvP_ptr, rvB_cells, gv_int, ungd_int, gv_bool, ungd_bool, gv_str, ungd_str, gv_agg, ungd_agg, gv_tup, ungd_tup, gv_lst, ungd_lst, gv_ep, ungd_ep, gv_ptr, ungd_ptr, gv_ap, ungd_ap, gv_vw, ungd_vw, gv_bp, ungd_bp, gv_fr, ungd_fr, gv_fn, ungd_fn, gv_nil, ungd_nil, gv_junk, ungd_junk, ungd_gd, gv_gd, kill3_int, kill0_int, kill1_int, kill3_bool, kill0_bool, kill1_bool, kill3_str, kill0_str, kill1_str, kill3_agg, kill1_agg, kill3_tup, kill3_lst, kill0_lst, kill1_lst, kill3_ep, kill0_ep, kill1_ep, kill3_ptr, kill0_ptr, kill3_ap, kill0_ap, kill3_vw, kill0_vw, kill3_bp, kill0_bp, kill3_fr, kill0_fr, kill1_fr, kill3_fn, kill0_fn, kill1_fn, kill3_nil, kill0_nil, kill1_nil, kill3_junk, kill0_junk, kill1_junk, leA_int, leV1_int, leA_bool, leV1_bool, leA_str, leV1_str, leA_agg, leA_tup, leV1_tup, leA_lst, leV1_lst, leA_ep, leV1_ep, leA_ptr, leV1_ptr, leA_ap, leV1_ap, leA_vw, leV1_vw, leA_bp, leV1_bp, leA_fr, leV1_fr, leA_fn, leV1_fn, leA_junk, leV1_junk, leA_nil, leA_nilnil, leV1_agg, leV1_nil, leAs_nil, leAs_cons, leVs_nil, leVs_cons, resV_one, resV_two, evOps_nil, evOps_cons, goOp_some, evG_no, evG_yes, gG_some, pathG_bool, pathG_gd, guardR_q, guardR_u, guardU_some, guardL_nil, guardL_cons, pathP_nil, pathP_cons, pathB_nil, pathB_cons, boolOf_bool, boolOf_gd, askL_nil, askL_cons, knowL_nil, knowL_cons, put_q, put_u, put_n, put_s, upd_at, updM_at, killS_at, ungdS_at, killM_at, killB_cells, kill3_gd', av_t, av_c, ar_t, ar_c, avs_nil, avs_cons, bind1_some', bind2_some', ev_mov, ev_not, ev_neg, ev_conv, ev_extract, ev_nilchk, un1_mov, un1_not, un1_neg, un1_conv, un1_nilchk, un1_extract, toR_some', ev_pick, pick3_some, pickV_bool, ev_arith, arith_add, arith_sub, arith_mul, arith_and, arith_or, arith_xor, arith_andNot, arith_quo, arith_rem, ev_cmp, cmp2_some, cmp_eql, cmp_neq, cmp_lss, cmp_leq, cmp_gtr, cmp_geq, cmp_eqlB, cmp_neqB, cmp_eqlS, cmp_neqS, ev_eqa, eqa2_some, eqaR_agg, eqC_nil, eqC_int, eqC_bool, eqC_str, ev_len, len_lst, len_nil, len_str, ev_minmax, mm_nil, mm_max, mm_min, ev_faddr, faddr_ptr, faddr_ep, ev_iaddrS, iaddrS_lst, ev_iaddrA, iaddrA_ptr, ev_load, load_ptr, load_ep, valOf_agg, valOf_one, ev_store, store_ptr, setC_nil, setC_cons, cells_agg, cells_int, cells_bool, cells_str, cells_lst, cells_ep, cells_ptr, cells_ap, cells_vw, cells_bp, cells_fr, cells_fn, cells_nil, ev_alloc, ev_box, boxR_eq, ev_build, ev_bslice, fillA_nil, fillA_cons, fillS_nil, fillS_cons, ev_call, call_pure, call_state, c0_int, c1_int, c2_int, c0_bool, c1_bool, c2_bool, c0_str, c1_str, c2_str, c0_lst, c1_lst, c2_lst, c0_fn, c1_fn, c2_fn, c0_nil, c1_nil, c2_nil, c1_agg, c2_agg, c2_tup, evC_skip, evC_region, evC_seq, evC_cond, evC_block, evC_loop, evC_exit, evC_ret, kEnd_at, hasG_nil, hasG_no, hasG_yes, kSeq_n, kSeq_e, kSeq_r, kBlk_n, kBlk_r, kBlk_e, kLoop_n, kLoop_e, kLoop_r, kRet_r, kRet_n, retOK_f, retOK_t, retL_nil, retL_cons, retV_t, retV_c, initM_f, initM_t, initS_at, lookL_nil, lookL_cons, lookM_nil, lookM_cons, SL_st, SL_ge, leL_nil, leL_cons, leM_nil, leM_cons, evC_draw, evD_nil, evD_cons, evDk_some, newOK_none, newOK_some, pairD_nil, pairD_cons, pairOK_eq, pairB_t, pairB_f, newMen_none, newMen_some, noMen_eq, noB_none, noB_some, chkR_eq, newI_none, newI_some, optN_none, optN_some, disjN_nil, disjN_cons, pslots_gd, pslots_int, pslots_bool, pslots_str, pslots_agg, pslots_tup, pslots_lst, pslots_ep, pslots_ptr, pslots_fn, pslots_nil, pslots_junk, knowD_nil, knowD_cons, preK_nil, preK_none, preK_some, preB_t, preB_f, needD_alloc, needD_box, killB_cs, needD_mov, needD_pick, needD_arith, needD_cmp, needD_eqa, needD_not, needD_neg, needD_conv, needD_b2s, needD_len, needD_minmax, needD_faddr, needD_fld, needD_iaddrS, needD_iaddrA, needD_load, needD_store, needD_build, needD_bslice, needD_extract, needD_nilchk, needD_call, needD_append, needD_slice, needD_mkslice, needD_copy, reduceIte, Nat.reduceEqDiff, Nat.reduceMul, Nat.reduceAdd, Nat.reduceBEq, Option.getD_some, Option.getD_none, List.length_cons, List.length_nil, List.getElem?_cons_succ, List.getElem?_cons_zero, List.drop_zero, List.drop_succ_cons, List.take_succ_cons, List.take_zero, List.map_cons, List.map_nil, List.all_cons, List.all_nil, List.contains_cons, List.contains_nil, List.nil_append, List.cons_append, List.set_cons_zero, List.set_cons_succ, List.replicate_succ, List.replicate_zero, List.getD_cons_zero, List.getD_cons_succ, beq_self_eq_true, Bool.and_self, Bool.or_false, Bool.true_or, Bool.or_true, Bool.and_true, Bool.true_and, Bool.cond_true_left, Bool.cond_false_right, and_true, true_and, true_imp_iff, and_self, imp_self, implies_true, Nat.reduceLeDiff, decide_true, decide_false, if_true, if_false, Nat.zero_mul, Nat.add_zero, Nat.zero_add, Int.toNat_natCast, Int.reduceToNat, Int.reduceLE, Int.reduceLT, Nat.reduceLT, i64s_len, getE_i64, Bool.not_true, Bool.not_false, Bool.false_eq_true, Bool.true_eq_false, false_imp_iff, List.length_map, getE_u8, u8s_len, C7, C8, C9, C10, C11, C16, Tm.av, Tm.eta]
  have hm0 : 0 ≤ m := by rw [hm]; exact Int.emod_nonneg _ (by omega)
  have hmn : m < n := by rw [hm, hn]; exact Int.emod_lt_of_pos _ (by omega)
  have hn2 : 2 ≤ n := by omega
  have hn3 : n ≤ 301 := by omega
  clear hm hn e1 e2 e3 e4 e5
  have hv0 : valid (fresh n m 3) = true := (valid_iff _).mpr (by simp [fresh]; omega)
  have hN : newT n m 3 = fresh n m 3 := by simp [newT, hv0]
  have hE : newE n m 3 = 0 := by simp [newE, hv0]
  rw [hN, hE]
  have hst : ∀ p : K0 n m, start p.t = run n m 0 0 := by
    rintro ⟨⟨r, i, l, e, a, w, x⟩, k, hv, hi, he, ha, hx⟩
    dsimp only at hi he ha hx
    subst hi he ha hx
    have g1 : decide (i > 0) = true := by simp; omega
    have g2 : decide (i - 0 ≤ e) = false := by simp; omega
    simp only [start, run]
    rw [hv, g1, g2]
    simp
  refine ⟨by decide, by omega, fun h => by simp at h, fun _ => ⟨⟨fresh n m 3, 0, hv0, rfl, rfl, rfl, rfl⟩, ⟨rfl, rfl⟩, ?_⟩⟩
  rintro p hlen
  refine ⟨fun h => ?_, fun _ => ?_⟩
  · -- a kick
    simp only [Bool.and_eq_true, decide_eq_true_eq] at h
    refine ⟨⟨p.k, 0, by omega, by omega, ?_⟩, ⟨⟨rfl, rfl⟩, ?_⟩, ?_⟩
    · exact Int.emod_nonneg _ (by omega)
    · exact congrArg some (congrArg Blk.cells (cell_av _ _ (hst p)))
    · rintro ⟨k, i, hk1, hk2, hi⟩ hR
      dsimp only at hR ⊢
      subst hR
      refine ⟨⟨by omega, by omega⟩, fun _ => ⟨by omega, ?_⟩⟩
      have hb := getD_all (p := fun k => 0 ≤ k ∧ k ≤ 255) hk (by omega) p.k
      rw [wr_in _ (by omega) (by omega), tmod_nn _ _ hb.1]
      have hlt := Int.emod_lt_of_pos (ks.getD p.k 0) (b := n) (by omega)
      have hle : (ks.getD p.k 0) % n ≤ 255 := by
        by_cases hq : ks.getD p.k 0 < n
        · rw [Int.emod_eq_of_lt hb.1 hq]; exact hb.2
        · omega
      have hvr : valid (run n m i 0) = true := (valid_iff _).mpr (by simp [run]; omega)
      refine ⟨fun h => ?_, fun h => ?_⟩
      · have h := of_decide_eq_true h
        have hx : stepX (run n m i 0) = false := by
          have g : decide (n - (i:Int) = 1) = false := by simp; omega
          simp only [stepX, hvr, Bool.true_and]; exact g
        have hs : stepT (run n m i 0) = run n m (i + 1 : Nat) 0 := by
          have h1 : ¬ (n - (i:Int) = 1) := by omega
          simp only [stepT, hvr]
          simp [run, h1]
          by_cases h2 : n - (i:Int) - 1 = m <;> simp [h2] <;> omega
        refine ⟨fun h => (by rw [hx] at h; cases h), fun _ => ⟨⟨p.k, i + 1, hk1, hk2, by omega⟩, ⟨⟨rfl, ?_⟩, ?_⟩, rfl, ?_⟩⟩
        · exact AV.int_inj' (by rw [wr_in _ (by omega) (by omega)]; rfl)
        · exact congrArg some (congrArg Blk.cells (cell_av _ _ hs))
        · show 256 - (i + 1) < 256 - i
          omega
      · refine ⟨⟨run n m i 0, p.k + 1, hvr, rfl, rfl, rfl, rfl⟩, ⟨AV.int_inj' (by rw [wr_in _ (by omega) (by omega)]; rfl), rfl⟩, ?_⟩
        show ks.length - (p.k + 1) < ks.length - p.k
        omega
  · -- the last start
    refine ⟨⟨1, by omega, by omega⟩, ⟨rfl, ?_⟩, ?_⟩
    · refine congrArg some (congrArg Blk.cells (cell_av _ _ ?_))
      refine (hst p).trans ?_
      have g1 : (1:Int) ≤ n := by omega
      simp [at3, g1]
    · rintro ⟨i, h1, h2⟩
      dsimp only
      rw [wr_in (n - m) (by omega) (by omega)]
      refine ⟨fun h => ?_, fun h => ?_⟩
      · have h := of_decide_eq_true h
        have hA : at3 n m i = run n m (i - 1) 0 := by simp [at3, h]
        have hvr : valid (run n m (i - 1) 0) = true := (valid_iff _).mpr (by simp [run]; omega)
        have hsw : stepW (at3 n m i) = (decide (0 < m) && decide ((i:Int) = n - m)) := by
          rw [hA]
          have g : (decide (n - ((i:Int) - 1) ≠ 1) && decide (n - ((i:Int) - 1) - 1 = m)) = (decide (0 < m) && decide ((i:Int) = n - m)) := by
            rw [Bool.eq_iff_iff]; simp only [Bool.and_eq_true, decide_eq_true_eq]; omega
          simp only [stepW, hvr, Bool.true_and]; exact g
        have hsx : stepX (at3 n m i) = decide ((i:Int) = n) := by
          rw [hA]
          have g : decide (n - ((i:Int) - 1) = 1) = decide ((i:Int) = n) := by
            rw [Bool.eq_iff_iff]; simp only [decide_eq_true_eq]; omega
          simp only [stepX, hvr, Bool.true_and]; exact g
        have hst' : stepT (at3 n m i) = at3 n m (i + 1) := by
          rw [hA]; simp only [stepT, hvr]
          by_cases h3 : (i:Int) = n
          · have h4 : n - ((i:Int) - 1) = 1 := by omega
            have h5 : ¬ ((i:Int) + 1 ≤ n) := by omega
            simp [run, at3, h4, h5]; decide
          · have h4 : ¬ (n - ((i:Int) - 1) = 1) := by omega
            have h5 : (i:Int) + 1 ≤ n := by omega
            simp [run, at3, h4, h5]
            by_cases h6 : n - ((i:Int) - 1) - 1 = m <;> simp [h6] <;> omega
        have hsr : (stepT (at3 n m i)).r = decide ((i:Int) < n) := by
          rw [hst']
          by_cases h7 : (i:Int) + 1 ≤ n
          · have h8 : (i:Int) < n := by omega
            simp [at3, run, h7, h8]
          · have h8 : ¬ ((i:Int) < n) := by omega
            simp [at3, h7, h8]
        refine ⟨fun h => ?_, fun _ => ⟨⟨i + 1, by omega, by omega⟩, ⟨?_, ?_⟩, ?_⟩⟩
        · rw [hsw, hsx, hsr] at h; simp at h
        · exact AV.int_inj' (by rw [wr_in _ (by omega) (by omega)]; rfl)
        · exact congrArg some (congrArg Blk.cells (cell_av _ _ hst'))
        · show (n + 1).toNat - (i + 1) < (n + 1).toNat - i
          omega
      · have h := of_decide_eq_false h
        have hA : at3 n m i = ⟨false, n, 0, m, 3, false, 1⟩ := by simp [at3, h]
        rw [hA]
        simp [stepT, stepW, stepX]
end Go.Proofs.Ytkpjkembnkadaaa
