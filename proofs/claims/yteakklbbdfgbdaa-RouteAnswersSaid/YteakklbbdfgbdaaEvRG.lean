/- A part of the proof: symbolic evaluation of the program's functions, proved sound against the model; no condition. -/
import Derived.Test.YteakklbbdfgbdaaEvRD
namespace Go.Proofs.Yteakklbbdfgbdaa
open Go Go.RowKit Go.Ev
set_option linter.unusedSimpArgs false
set_option linter.unusedVariables false
set_option maxRecDepth 20000
structure K28a (m : Nt) (x : Int) where
  i : Nat
  hi : i ≤ m.N.toNat
def S28a (m : Nt) (x : Int) (p : K28a m x) : SL := ⟨[(1, .int .i64 x), (2, .ptr 192 0), (5, .vw 960 0 0 0), (6, .int .i64 p.i)], [(192, .cells [.int .i64 m.N, .lst [.int .u8 0, .int .i64 0, .int .i64 0] (brs m.bs), .lst [.int .u8 0, .int .u8 0, .int .i64 0] (eps m.es)]), (960, .buf 3 [.int .i64 0] (i64s (List.replicate p.i (-1) ++ List.replicate (m.N.toNat - p.i) 0)))]⟩
abbrev L28a (m : Nt) (x : Int) : LI := ⟨K28a m x, S28a m x, fun p => m.N.toNat - p.i, fun p q => True⟩
theorem L28aS (m : Nt) (x : Int) : (L28a m x).S = S28a m x := rfl
theorem L28aM (m : Nt) (x : Int) (p : K28a m x) : (L28a m x).μ p = m.N.toNat - p.i := rfl
theorem L28aR (m : Nt) (x : Int) (p q : K28a m x) : (L28a m x).R p q = (True) := rfl
structure K28b (m : Nt) (x : Int) where
  o : List Int
  Q : List Int
  i : Nat
  hi : i ≤ Q.length
  hB : Bf m.N.toNat m.bs x o (Q.drop i)
  hm : i + ms o (Q.drop i) ≤ 2 * m.N.toNat + 1
  hu : ∀ h, (Q.drop i).head? = some h → nat o h ≤ i
def S28b (m : Nt) (x : Int) (p : K28b m x) : SL := ⟨[(1, .int .i64 x), (2, .ptr 192 0), (5, .vw 960 0 0 0), (7, .vw 3200 0 0 0), (8, .int .i64 p.i)], [(192, .cells [.int .i64 m.N, .lst [.int .u8 0, .int .i64 0, .int .i64 0] (brs m.bs), .lst [.int .u8 0, .int .u8 0, .int .i64 0] (eps m.es)]), (960, .buf 3 [.int .i64 0] (i64s p.o)), (3200, .buf 3 [.int .i64 0] (i64s p.Q))]⟩
abbrev L28b (m : Nt) (x : Int) : LI := ⟨K28b m x, S28b m x, fun p => 2 * m.N.toNat + 2 - p.i, fun p q => True⟩
theorem L28bS (m : Nt) (x : Int) : (L28b m x).S = S28b m x := rfl
theorem L28bM (m : Nt) (x : Int) (p : K28b m x) : (L28b m x).μ p = 2 * m.N.toNat + 2 - p.i := rfl
theorem L28bR (m : Nt) (x : Int) (p q : K28b m x) : (L28b m x).R p q = (True) := rfl
structure K28c (m : Nt) (x : Int) where
  o : List Int
  Q : List Int
  i : Nat
  k : Nat
  hi : i < Q.length
  hk : k ≤ m.bs.length
  hB : Bf m.N.toNat m.bs x o (Q.drop i)
  hm : i + ms o (Q.drop i) ≤ 2 * m.N.toNat + 1
  hs : ∀ b ∈ m.bs.take k, ∀ z, sd b (Q.getD i 0) = some z → 0 ≤ nat o z
  hu : nat o (Q.getD i 0) ≤ i
def S28c (m : Nt) (x : Int) (p : K28c m x) : SL := ⟨[(1, .int .i64 x), (2, .ptr 192 0), (5, .vw 960 0 0 0), (7, .vw 3200 0 0 0), (8, .int .i64 p.i), (9, .int .i64 p.k)], [(192, .cells [.int .i64 m.N, .lst [.int .u8 0, .int .i64 0, .int .i64 0] (brs m.bs), .lst [.int .u8 0, .int .u8 0, .int .i64 0] (eps m.es)]), (960, .buf 3 [.int .i64 0] (i64s p.o)), (3200, .buf 3 [.int .i64 0] (i64s p.Q))]⟩
abbrev L28c (m : Nt) (x : Int) : LI := ⟨K28c m x, S28c m x, fun p => m.bs.length - p.k, fun p q => q.i = p.i⟩
theorem L28cS (m : Nt) (x : Int) : (L28c m x).S = S28c m x := rfl
theorem L28cM (m : Nt) (x : Int) (p : K28c m x) : (L28c m x).μ p = m.bs.length - p.k := rfl
theorem L28cR (m : Nt) (x : Int) (p q : K28c m x) : (L28c m x).R p q = (q.i = p.i) := rfl
def I28 (m : Nt) (x : Int) : Nat → LI := fun n => if n = 0 then L28a m x else if n = 1 then L28b m x else L28c m x
theorem I28_0 (m : Nt) (x : Int) : I28 m x 0 = L28a m x := rfl
theorem I28_1 (m : Nt) (x : Int) : I28 m x 1 = L28b m x := rfl
theorem I28_2 (m : Nt) (x : Int) : I28 m x 2 = L28c m x := rfl
set_option maxHeartbeats 4000000 in
theorem walk28 {Phi : Nat → Option Ctr} (P24 : Phi 24 = some CSd) (m : Nt) (x : Int) (hl : m.bs.length ≤ 1000) (hv : Vd m.N.toNat m.bs) (hN : 0 ≤ m.N ∧ m.N ≤ 16) (hx : In m.N.toNat x) : evC Phi (I28 m x) rc28 ⟨initS [m.av, .int .i64 x], initM false []⟩ (kRet rv28 (.lst [.int .i64 0] (i64s (ds m.N.toNat m.bs x))) false []) := by
  simp (config := {maxSteps := 2000000, contextual := true}) only [rc28, Nt.av, initM_f, rv28, evC_seq, evC_region, eo_box, evG_no, Option.getD_some, ev_box, av_t, initS_at, List.getD_cons_zero, gv_agg, bind1_some', boxR_eq, cells_agg, List.length_cons, List.length_nil, Nat.zero_add, Nat.reduceAdd, ↓reduceIte, bxO_some, Nat.reduceMul, goOp_some, put_n, killB_cells, List.map_cons, kill0_int, kill0_lst, List.map_nil, eo_mov, ev_mov, av_c, gv_nil, un1_mov, put_q, evOps_nil, kEnd_at, hasG_no, hasG_nil, kEndB_f, kSeq_n, eo_faddr, ev_faddr, upd_at, Nat.reduceEqDiff, gv_ptr, faddr_ptr, Nat.add_zero, eo_load, ev_load, load_ptr, updM_at, ldB_cells, valOf_one, List.getElem?_cons_zero, ldV_some, eo_mkslice, ev_mkslice, gv_int, bind2_some', mk_int, killB_buf, gv_vw, evC_block, evC_loop, I28_0, L28aS, S28a, SL_ge, lkL_cons, killS_at, List.getD_cons_succ, kill3_int, lkS_int, kill3_ptr, lkS_ptr, lkS_vw_vw, beq_self_eq_true, renK_t, lkL_nil, List.nil_append, lkM_cons, killM_at, killO_some, lkB_cells, lkC_cons, lkC0_int, lkC0_lst, lkC_nil, lkB_buf, lkM_nil, applyL_nil, SL_ge0, leL_cons, leV1_int, leV1_ptr, leV1_vw, leL_nil, and_true, true_and, leM_cons, leB_cells, leAs_cons, leA_int, leA_lst, leAs_nil, and_self, leB_buf, leM_nil, L28aR, SL_st, lookL_cons, eo_len, ev_len, len_vw, lookM_cons, lenV_buf, i64s_len, eo_cmp, ev_cmp, cmp2_some, cmp_lss, toR_some', evC_cond, evC_skip, eo_iaddrS, ev_iaddrS, iaddrS_vw, iasV_buf, iasW_t, Int.toNat_natCast, eo_store, ar_c, ar_t, vwsT_bp, vws1_int, frzL_nil, goF_eq, Option.getD_none, ev_store, gv_bp, store_bp, cells_int, stP_buf, List.all_cons, c0_int, List.all_nil, Bool.and_self, Nat.reduceLeDiff, decide_true, stQ_t, getE_i64, setC_cons, List.set_cons_zero, setC_nil, put_s, liveB_buf, kBlk_n, eo_arith, ev_arith, arith_add, kLoop_n, knowL_nil, askL_nil, askL_cons, knowL_cons, evC_exit, kSeq_e, kLoop_e, kBlk_e, kBlkB_t, eo_bsliceO, vwsG_cons, vwsG_nil, ev_bsliceO, List.replicate_succ, List.replicate_zero, fillS_cons, fsK_some, fsC_some, Nat.reduceLT, fillS_nil, blO2_some, I28_1, L28bS, S28b, kill3_vw, Nat.reduceBEq, renK_f, List.cons_append, lookM_nil, killO_none, applyL_ren, renQ_buf, Bool.not_false, renP_t, renSl_at, ren3_int, ren3_ptr, ren3_vw, renM_at, renO_cells, ren0_int, ren0_lst, renO_buf, L28bR, I28_2, L28cS, S28c, L28cR, List.getElem?_cons_succ, gv_lst, len_lst, brs_len, evC_draw, preK_some, needD_faddr, preB_f, needD_load, needD_mov, needD_iaddrS, needD_call, preB_t, needD_extract, preK_nil, evD_cons, evDk_some, newOK_none, iaddrS_lst, iasB_true, gv_ep, load_ep, getE_br, valOf_agg, valB_true, List.drop_zero, List.take_succ_cons, List.take_zero, load_bp, ldP_buf, ldQ_t, ev_call, P24, CSd, avs_cons, avs_nil, consO_some, clE_some, callE_pure, lends_cons, lend1_agg, lendC_cons, lendA_int, lendC_nil, consL_some', aggL_some, lend1_int, lends_nil, callN_some, Br.eta, callP_some, c2_tup, c1_int, c1_bool, flat2_tup, flat1_int, flat1_bool, backOK_nil, clQ_t, gv_tup, ev_extract, un1_extract, gv_bool, evD_nil, evG_yes, pathG_bool, gG_some, guardR_q, guardL_nil, gv_gd, List.contains_cons, List.contains_nil, Bool.or_false, gvB_true, guardL_cons, pathP_cons, boolOf_bool, pathP_nil, eo_pick, ev_pick, pick3_some, pickV_bool, Bool.cond_false_right, hasG_yes, kEndB_t, ungdS_at, ungd_vw, ungd_int, eo_append, ev_append, appQR_vw, ysOf_vw, ysV_buf, appC_buf, appV_buf, appK_some, i64s_snoc, ungd_ptr, true_imp_iff, ungd_bool, condK_bool, knowD_cons, knowD_nil, pairD_cons, pairOK_eq, newMen_none, Bool.or_true, pairB_t, pairD_nil, pairB_f, chkR_eq, pslots_int, optN_some, disjN_nil, pslots_bool, newI_none, pslots_agg, pslots_ep, pslots_lst, pslots_ptr, pslots_bp, pslots_vw, evC_ret, kRet_r, retOK_eq, retL_cons, retV_t, retL_nil, lkR_one, lk1_vw_lst, lkT_f, applyL_frz, frzQ_buf, frzP_t, retOK_f, frzSl_at, frz3_vw, rtO_some, resV_one, leV1_lst]
  have hNN : (m.N.toNat : Int) = m.N := by omega
  refine ⟨⟨by omega, by omega, by omega, by omega⟩, ⟨0, Nat.zero_le _⟩, ⟨rfl, by simp [i64s]⟩, ?_⟩
  rintro ⟨i, hi⟩
  dsimp only
  have hlen : (List.replicate i (-1) ++ List.replicate (m.N.toNat - i) 0 : List Int).length = m.N.toNat := by simp; omega
  rw [hlen]
  intro _
  refine ⟨fun hc => ?_, fun hc => ?_⟩
  · have hc := of_decide_eq_true hc
    refine ⟨⟨by omega, by omega⟩, by omega, ⟨i + 1, by omega⟩, ⟨AV.int_inj' (wr_succ i (by omega)), ?_⟩, by dsimp only; omega⟩
    rw [i64s_set, rep_set (by omega)]
  have hc := of_decide_eq_false hc
  obtain rfl : i = m.N.toNat := by omega
  have e0 : (List.replicate m.N.toNat (-1) ++ List.replicate (m.N.toNat - m.N.toNat) 0 : List Int) = List.replicate m.N.toNat (-1) := by simp
  rw [e0]
  have hms : 0 + ms (ini m.N.toNat x) ([x].drop 0) ≤ 2 * m.N.toNat + 1 := by
    have := neg_le (ini m.N.toNat x)
    have e : (ini m.N.toNat x).length = m.N.toNat := by simp [ini]
    simp only [ms, List.drop_zero, List.length_cons, List.length_nil]
    omega
  refine ⟨⟨hx.1, by omega⟩, by omega, ⟨ini m.N.toNat x, [x], 0, by simp, Bf.ini hx, hms, fun h hh => ?_⟩, ⟨rfl, by rw [i64s_set]; rfl, rfl⟩, ?_⟩
  · have e : x = h := by simpa using hh
    subst e
    have := (Bf.ini (bs := m.bs) hx).x0.2
    omega
  rintro ⟨o, Q, i, hi, hB, hm, hu⟩
  dsimp only
  intro _
  refine ⟨fun hc => ?_, fun hc => ?_⟩
  · have hc := of_decide_eq_true hc
    refine ⟨⟨o, Q, i, 0, by omega, Nat.zero_le _, hB, hm, fun b hb => (by simp at hb), hu _ (by rw [drop_cons Q (by omega)]; rfl)⟩, ⟨⟨rfl, rfl⟩, rfl, rfl⟩, ?_⟩
    rintro ⟨o2, Q2, i2, k, hi2, hk, hB2, hm2, hs2, hu2⟩ e
    dsimp only at e ⊢
    have e := e.symm
    subst e
    intro _
    have hd := drop_cons Q2 hi2
    have hq := hm2
    simp only [ms, List.length_drop] at hq
    have hB3 := hB2
    rw [hd] at hB3
    have hol := hB3.len
    have hhin := hB3.qa _ (List.mem_cons_self ..)
    refine ⟨fun hk1 => ?_, fun hk1 => ?_⟩
    · have hk1 := of_decide_eq_true hk1
      have hb := br_mem (l := m.bs) (k := k) (by omega)
      obtain ⟨t', e1, B', m', h', u', s'⟩ := hB3.st hv hb
      have hmt := fun c (hc : c ∈ m.bs.take (k + 1)) => mem_take_succ (by omega) hc
      have hin : sdK (m.bs.getD k b0) (Q2.getD i 0) = true → In m.N.toNat (sdV (m.bs.getD k b0) (Q2.getD i 0)) := fun e => sd_in hv hb (sd_of e)
      generalize m.bs.getD k b0 = b at *
      refine ⟨⟨by omega, by omega⟩, ⟨by omega, by omega⟩, by omega, fun _ => ⟨fun e => ?_, fun e => ?_, fun hcd => ?_, fun hcd => ?_⟩⟩
      · have := hin (by simpa using e); exact ⟨this.1, by rw [hol]; exact this.2⟩
      · have := hin (by simpa using e); rw [hol]; omega
      · have hcd' := hcd
        rw [Bool.and_eq_true] at hcd'
        obtain ⟨c1, c2⟩ := hcd'
        have c2 := of_decide_eq_true c2
        have hsd := sd_of c1
        have hvin := hin c1
        have est : st1 (Q2.getD i 0) (o2, Q2.getD i 0 :: Q2.drop (i + 1)) b = (o2.set (sdV b (Q2.getD i 0)).toNat (nat o2 (Q2.getD i 0) + 1), (Q2.getD i 0 :: Q2.drop (i + 1)) ++ [sdV b (Q2.getD i 0)]) := by
          rw [st1, hsd]; exact if_pos c2
        rw [est] at e1 B' m' h' u' s'
        dsimp only at e1 B' m' h' u' s'
        have hQ : (Q2 ++ [sdV b (Q2.getD i 0)]).drop i = Q2.getD i 0 :: t' := by
          rw [List.drop_append_of_le_length (by omega), hd]; exact e1
        have hwr : IntKind.i64.wrap (o2.getD (Q2.getD i 0).toNat 0 + 1) = nat o2 (Q2.getD i 0) + 1 := wr_in _ (by show -9223372036854775808 ≤ nat o2 (Q2.getD i 0) + 1; omega) (by show nat o2 (Q2.getD i 0) + 1 ≤ 9223372036854775807; omega)
        refine ⟨⟨by omega, by omega⟩, by omega, ⟨hhin.1.1, by rw [hol]; exact hhin.1.2⟩, fun _ => ⟨by have := hhin.1; rw [hol]; omega, ⟨hvin.1, by rw [hol]; exact hvin.2⟩, by rw [hol]; omega, by omega, by omega, ⟨o2.set (sdV b (Q2.getD i 0)).toNat (nat o2 (Q2.getD i 0) + 1), Q2 ++ [sdV b (Q2.getD i 0)], i, k + 1, by rw [List.length_append]; omega, by omega, by rw [hQ]; exact B', by rw [hQ]; rw [hd] at hm2; omega, ?_, by rw [getD_app _ _ hi2, h']; exact hu2⟩, ⟨⟨rfl, AV.int_inj' (wr_succ k (by omega))⟩, by rw [hwr, i64s_set], rfl⟩, rfl, by dsimp only; omega⟩⟩
        rw [getD_app _ _ hi2]
        intro c hc z hz
        rcases hmt c hc with h | rfl
        · exact u' z (sd_in hv (List.mem_of_mem_take h) hz) (hs2 c h z hz)
        · exact s' z hz
      · refine ⟨⟨o2, Q2, i, k + 1, hi2, by omega, hB2, hm2, ?_, hu2⟩, ⟨⟨rfl, AV.int_inj' (wr_succ k (by omega))⟩, rfl, rfl⟩, rfl, by dsimp only; omega⟩
        intro c hc z hz
        rcases hmt c hc with h | rfl
        · exact hs2 c h z hz
        · cases hK : sdK c (Q2.getD i 0) with
          | false => rw [sd_not hK] at hz; cases hz
          | true =>
            rw [sd_of hK] at hz
            cases hz
            rw [hK, Bool.true_and] at hcd
            have := of_decide_eq_false hcd
            show 0 ≤ o2.getD _ 0
            omega
    · have hk1 := of_decide_eq_false hk1
      obtain rfl : k = m.bs.length := by omega
      rw [List.take_length] at hs2
      have hP := hB3.pop hv hs2
      refine ⟨⟨o2, Q2, i + 1, hi2, hP, ?_, fun h hh => ?_⟩, ⟨AV.int_inj' (wr_succ i (by omega)), rfl, rfl⟩, by dsimp only; omega⟩
      · rw [hd] at hm2
        simp only [ms, List.length_cons] at hm2 ⊢
        omega
      · have hmem : h ∈ Q2.drop (i + 1) := List.mem_of_mem_head? (by rw [hh]; rfl)
        have := hB3.qm _ _ rfl h (hB3.qa h (List.mem_cons_of_mem _ hmem)).1
        omega
  · have hc := of_decide_eq_false hc
    rw [List.drop_of_length_le (by omega)] at hB
    rw [hB.eq_ds hv hx]
end Go.Proofs.Yteakklbbdfgbdaa
