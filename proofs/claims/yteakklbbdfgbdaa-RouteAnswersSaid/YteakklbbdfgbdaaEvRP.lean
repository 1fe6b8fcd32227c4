/- A part of the proof: symbolic evaluation of the program's functions, proved sound against the model; no condition. -/
import Derived.Test.YteakklbbdfgbdaaEvRD
namespace Go.Proofs.Yteakklbbdfgbdaa
open Go Go.RowKit Go.Ev
set_option linter.unusedSimpArgs false
set_option linter.unusedVariables false
set_option maxRecDepth 20000
structure K26a (m : Nt) (x : Int) where
  i : Nat
  hi : i ≤ m.N.toNat
def S26a (m : Nt) (x : Int) (p : K26a m x) : SL := ⟨[(1, .int .i64 x), (2, .ptr 192 0), (5, .vw 1024 0 0 0), (17, .int .i64 m.N), (18, .int .i64 p.i)], [(192, .cells [.int .i64 m.N, .lst [.int .u8 0, .int .i64 0, .int .i64 0] (brs m.bs), .lst [.int .u8 0, .int .u8 0, .int .i64 0] (eps m.es)]), (1024, .buf 3 [.int .i64 0] (i64s (List.replicate p.i (-1) ++ List.replicate (m.N.toNat - p.i) 0)))]⟩
abbrev L26a (m : Nt) (x : Int) : LI := ⟨K26a m x, S26a m x, fun p => m.N.toNat - p.i, fun p q => True⟩
theorem L26aS (m : Nt) (x : Int) : (L26a m x).S = S26a m x := rfl
theorem L26aM (m : Nt) (x : Int) (p : K26a m x) : (L26a m x).μ p = m.N.toNat - p.i := rfl
theorem L26aR (m : Nt) (x : Int) (p q : K26a m x) : (L26a m x).R p q = (True) := rfl
structure K26b (m : Nt) (x : Int) where
  o : List Int
  Q : List Int
  i : Nat
  hB : Bf m.N.toNat m.bs x o Q
  hm : i + ms o Q ≤ 2 * m.N.toNat + 1
  hu : ∀ h, Q.head? = some h → nat o h ≤ i
def S26b (m : Nt) (x : Int) (p : K26b m x) : SL := ⟨[(1, .int .i64 x), (2, .ptr 192 0), (5, .vw 1024 0 0 0), (7, .fn 23), (8, .vw 3200 0 0 0)], [(192, .cells [.int .i64 m.N, .lst [.int .u8 0, .int .i64 0, .int .i64 0] (brs m.bs), .lst [.int .u8 0, .int .u8 0, .int .i64 0] (eps m.es)]), (1024, .buf 3 [.int .i64 0] (i64s p.o)), (3200, .qb 3 [.int .i64 0] (i64s p.Q))]⟩
abbrev L26b (m : Nt) (x : Int) : LI := ⟨K26b m x, S26b m x, fun p => 2 * m.N.toNat + 2 - p.i, fun p q => True⟩
theorem L26bS (m : Nt) (x : Int) : (L26b m x).S = S26b m x := rfl
theorem L26bM (m : Nt) (x : Int) (p : K26b m x) : (L26b m x).μ p = 2 * m.N.toNat + 2 - p.i := rfl
theorem L26bR (m : Nt) (x : Int) (p q : K26b m x) : (L26b m x).R p q = (True) := rfl
structure K26c (m : Nt) (x : Int) where
  o : List Int
  h : Int
  t : List Int
  i : Nat
  k : Nat
  hk : k ≤ m.bs.length
  hB : Bf m.N.toNat m.bs x o (h :: t)
  hm : i + ms o (h :: t) ≤ 2 * m.N.toNat + 1
  hs : ∀ b ∈ m.bs.take k, ∀ z, sd b h = some z → 0 ≤ nat o z
  hu : nat o h ≤ i
def S26c (m : Nt) (x : Int) (p : K26c m x) : SL := ⟨[(1, .int .i64 x), (2, .ptr 192 0), (5, .vw 1024 0 0 0), (7, .fn 23), (8, .vw 3200 0 0 0), (36, .lst [.int .u8 0, .int .i64 0, .int .i64 0] (brs m.bs)), (37, .int .i64 m.bs.length), (38, .int .i64 p.k)], [(192, .cells [.int .i64 m.N, .lst [.int .u8 0, .int .i64 0, .int .i64 0] (brs m.bs), .lst [.int .u8 0, .int .u8 0, .int .i64 0] (eps m.es)]), (1024, .buf 3 [.int .i64 0] (i64s p.o)), (3200, .qb 3 [.int .i64 0] (i64s (p.h :: p.t)))]⟩
abbrev L26c (m : Nt) (x : Int) : LI := ⟨K26c m x, S26c m x, fun p => m.bs.length - p.k, fun p q => q.i = p.i⟩
theorem L26cS (m : Nt) (x : Int) : (L26c m x).S = S26c m x := rfl
theorem L26cM (m : Nt) (x : Int) (p : K26c m x) : (L26c m x).μ p = m.bs.length - p.k := rfl
theorem L26cR (m : Nt) (x : Int) (p q : K26c m x) : (L26c m x).R p q = (q.i = p.i) := rfl
def I26 (m : Nt) (x : Int) : Nat → LI := fun n => if n = 0 then L26a m x else if n = 1 then L26b m x else L26c m x
theorem I26_0 (m : Nt) (x : Int) : I26 m x 0 = L26a m x := rfl
theorem I26_1 (m : Nt) (x : Int) : I26 m x 1 = L26b m x := rfl
theorem I26_2 (m : Nt) (x : Int) : I26 m x 2 = L26c m x := rfl
set_option maxHeartbeats 4000000 in
theorem walk26 {Phi : Nat → Option Ctr} (P23 : Phi 23 = some CSd) (m : Nt) (x : Int) (hl : m.bs.length ≤ 1000) (hv : Vd m.N.toNat m.bs) (hN : 0 ≤ m.N ∧ m.N ≤ 16) (hx : In m.N.toNat x) : evC Phi (I26 m x) rc26 ⟨initS [m.av, .int .i64 x], initM false []⟩ (kRet rv26 (.lst [.int .i64 0] (i64s (ds m.N.toNat m.bs x))) false []) := by
  simp (config := {maxSteps := 2000000, contextual := true}) only [rc26, Nt.av, initM_f, rv26, evC_seq, evC_region, eo_box, evG_no, Option.getD_some, ev_box, av_t, initS_at, List.getD_cons_zero, gv_agg, bind1_some', boxR_eq, cells_agg, List.length_cons, List.length_nil, Nat.zero_add, Nat.reduceAdd, ↓reduceIte, bxO_some, Nat.reduceMul, goOp_some, put_n, killB_cells, List.map_cons, kill0_int, kill0_lst, List.map_nil, eo_mov, ev_mov, av_c, gv_nil, un1_mov, put_q, evOps_nil, kEnd_at, hasG_no, hasG_nil, kEndB_f, kSeq_n, eo_faddr, ev_faddr, upd_at, Nat.reduceEqDiff, gv_ptr, faddr_ptr, Nat.add_zero, eo_load, ev_load, load_ptr, updM_at, ldB_cells, valOf_one, List.getElem?_cons_zero, ldV_some, eo_mkslice, ev_mkslice, gv_int, bind2_some', mk_int, killB_buf, gv_vw, eo_len, ev_len, len_vw, lenV_buf, evC_block, evC_loop, I26_0, L26aS, S26a, SL_ge, lkL_cons, killS_at, List.getD_cons_succ, kill3_int, lkS_int, kill3_ptr, lkS_ptr, lkS_vw_vw, beq_self_eq_true, renK_t, lkL_nil, List.nil_append, lkM_cons, killM_at, killO_some, lkB_cells, lkC_cons, lkC0_int, lkC0_lst, lkC_nil, lkB_buf, lkM_nil, applyL_nil, SL_ge0, leL_cons, leV1_int, leV1_ptr, leV1_vw, leL_nil, and_true, true_and, leM_cons, leB_cells, leAs_cons, leA_int, leA_lst, leAs_nil, and_self, leB_buf, leM_nil, L26aR, SL_st, eo_cmp, ev_cmp, lookL_cons, cmp2_some, cmp_lss, toR_some', evC_cond, evC_skip, eo_iaddrS, ev_iaddrS, iaddrS_vw, lookM_cons, iasV_buf, iasW_t, i64s_len, Int.toNat_natCast, eo_store, ar_c, ar_t, vwsT_bp, vws1_int, frzL_nil, goF_eq, Option.getD_none, ev_store, gv_bp, store_bp, cells_int, stP_buf, List.all_cons, c0_int, List.all_nil, Bool.and_self, Nat.reduceLeDiff, decide_true, stQ_t, getE_i64, setC_cons, List.set_cons_zero, setC_nil, put_s, liveB_buf, kBlk_n, eo_arith, ev_arith, arith_add, kLoop_n, knowL_nil, askL_nil, askL_cons, knowL_cons, evC_exit, kSeq_e, kLoop_e, kBlk_e, kBlkB_t, gv_fn, eo_bsliceO, vwsG_cons, vwsG_nil, ev_bsliceO, List.replicate_succ, List.replicate_zero, fillS_cons, fsK_some, fsC_some, Nat.reduceLT, fillS_nil, blO2_some, I26_1, L26bS, S26b, kill3_vw, kill3_fn, lkS_fn, Nat.reduceBEq, renK_f, List.cons_append, lookM_nil, killO_none, lkB_qb, applyL_ren, renQ_buf, Bool.not_false, renP_t, renSl_at, ren3_int, ren3_ptr, ren3_vw, ren3_fn, leV1_fn, renM_at, renO_cells, ren0_int, ren0_lst, renO_buf, leB_bq, L26bR, lenV_qb, cmp_gtr, List.getElem?_cons_succ, gv_lst, len_lst, brs_len, I26_2, L26cS, S26c, lkS_lst, leV1_lst, leB_qb, L26cR, iaddrS_lst, iasB_true, gv_ep, load_ep, getE_br, valOf_agg, valB_true, List.drop_zero, List.take_succ_cons, List.take_zero, eo_alloc, ev_alloc, kill3_agg, vwsT_ptr, store_ptr, stB_cells, stC_true, List.set_cons_succ, liveB_cells, evC_draw, preK_some, needD_mov, preB_f, needD_load, needD_iaddrS, needD_callv, needD_extract, preK_nil, evD_cons, evDk_some, newOK_none, killB_qb, iasV_qb, Int.reduceLE, Int.reduceToNat, load_bp, ldP_qb, ldQ_t, ev_callv, avs_cons, avs_nil, consO_some, clV_some, List.contains_cons, List.contains_nil, Bool.or_false, Bool.or_true, clW_t, P23, CSd, call_pure, lends_cons, lend1_agg, lendC_cons, lendA_int, lendC_nil, consL_some', aggL_some, lend1_int, lends_nil, callN_some, Br.eta, callP_some, c2_tup, c1_int, c1_bool, flat2_tup, flat1_int, flat1_bool, backOK_nil, clQ_t, gv_tup, ev_extract, un1_extract, gv_bool, evD_nil, evG_yes, pathG_bool, gG_some, guardR_q, guardL_nil, gv_gd, gvB_true, guardL_cons, pathP_cons, boolOf_bool, pathP_nil, ldP_buf, eo_pick, ev_pick, pick3_some, pickV_bool, Bool.cond_false_right, hasG_yes, kEndB_t, ungdS_at, ungd_vw, ungd_int, eo_append, ev_append, appQR_vw, ysOf_vw, ysV_buf, appC_qb, appQK_eq, i64s_snoc, ungd_ptr, ungd_fn, kill3_lst, ungd_lst, true_imp_iff, ungd_bool, condK_bool, knowD_cons, knowD_nil, pairD_cons, pairOK_eq, newMen_none, pairB_t, pairD_nil, pairB_f, chkR_eq, pslots_int, optN_some, disjN_nil, pslots_bool, newI_none, pslots_agg, pslots_fn, pslots_bp, pslots_vw, eo_slice, ev_slice, boundA_some, optS_some, boundA_none, sliceQ_vw, slC_qb, loOf_int, slK_t, i64s_drop, List.drop_succ_cons, evC_ret, kRet_r, retOK_eq, retL_cons, retV_t, retL_nil, lkR_one, lk1_vw_lst, lkT_f, applyL_frz, frzQ_buf, frzP_t, retOK_f, frzSl_at, frz3_vw, rtO_some, resV_one]
  have hNN : (m.N.toNat : Int) = m.N := by omega
  refine ⟨⟨by omega, by omega, by omega, by omega⟩, fun _ => ⟨⟨0, Nat.zero_le _⟩, ⟨⟨AV.int_inj' (by rw [List.length_replicate]; exact hNN), rfl⟩, by simp [i64s]⟩, ?_⟩⟩
  rintro ⟨i, hi⟩
  dsimp only
  have hlen : (List.replicate i (-1) ++ List.replicate (m.N.toNat - i) 0 : List Int).length = m.N.toNat := by simp; omega
  rw [hlen]
  refine ⟨fun hc => ?_, fun hc => ?_⟩
  · have hc := of_decide_eq_true hc
    refine ⟨⟨by omega, by omega⟩, fun _ => ⟨by omega, ⟨i + 1, by omega⟩, ⟨AV.int_inj' (wr_succ i (by omega)), ?_⟩, by dsimp only; omega⟩⟩
    rw [i64s_set, rep_set (by omega)]
  have hc := of_decide_eq_false hc
  obtain rfl : i = m.N.toNat := by omega
  have e0 : (List.replicate m.N.toNat (-1) ++ List.replicate (m.N.toNat - m.N.toNat) 0 : List Int) = List.replicate m.N.toNat (-1) := by simp
  rw [e0]
  have hms : 0 + ms (ini m.N.toNat x) [x] ≤ 2 * m.N.toNat + 1 := by
    have := neg_le (ini m.N.toNat x)
    have e : (ini m.N.toNat x).length = m.N.toNat := by simp [ini]
    simp only [ms, List.length_cons, List.length_nil]
    omega
  refine ⟨⟨hx.1, by omega⟩, fun _ => ⟨by omega, ⟨ini m.N.toNat x, [x], 0, Bf.ini hx, hms, fun h hh => ?_⟩, ⟨by rw [i64s_set]; rfl, rfl⟩, ?_⟩⟩
  · have e : x = h := by simpa using hh
    subst e
    have := (Bf.ini (bs := m.bs) hx).x0.2
    omega
  rintro ⟨o, Q, i, hB, hm, hu⟩
  dsimp only
  intro _
  refine ⟨fun hc _ => ?_, fun hc => ?_⟩
  · have hc := of_decide_eq_true hc
    cases Q with
    | nil => simp at hc
    | cons h t =>
    refine ⟨⟨o, h, t, i, 0, Nat.zero_le _, hB, hm, fun b hb => (by simp at hb), hu _ rfl⟩, ⟨rfl, rfl, rfl⟩, ?_⟩
    rintro ⟨o2, h2, t2, i2, k, hk, hB2, hm2, hs2, hu2⟩ e
    dsimp only at e ⊢
    subst e
    have hq := hm2
    simp only [ms, List.length_cons] at hq
    have hol := hB2.len
    have hhin := hB2.qa _ (List.mem_cons_self ..)
    refine ⟨fun hk1 => ?_, fun hk1 => ?_⟩
    · have hk1 := of_decide_eq_true hk1
      have hb := br_mem (l := m.bs) (k := k) (by omega)
      obtain ⟨t', e1, B', m', h', u', s'⟩ := hB2.st hv hb
      have hmt := fun c (hc : c ∈ m.bs.take (k + 1)) => mem_take_succ (by omega) hc
      have hin : sdK (m.bs.getD k b0) h2 = true → In m.N.toNat (sdV (m.bs.getD k b0) h2) := fun e => sd_in hv hb (sd_of e)
      generalize m.bs.getD k b0 = b at *
      refine ⟨⟨by omega, by omega⟩, by omega, by omega, fun _ => ⟨fun e => ?_, fun e => ?_, fun hcd => ?_, fun hcd => ?_⟩⟩
      · have := hin (by simpa using e); exact ⟨this.1, by rw [hol]; exact this.2⟩
      · have := hin (by simpa using e); rw [hol]; omega
      · have hcd' := hcd
        rw [Bool.and_eq_true] at hcd'
        obtain ⟨c1, c2⟩ := hcd'
        have c2 := of_decide_eq_true c2
        have hsd := sd_of c1
        have hvin := hin c1
        have est : st1 h2 (o2, h2 :: t2) b = (o2.set (sdV b h2).toNat (nat o2 h2 + 1), (h2 :: t2) ++ [sdV b h2]) := by
          rw [st1, hsd]; exact if_pos c2
        rw [est] at e1 B' m' h' u' s'
        dsimp only at e1 B' m' h' u' s'
        have e2 : t2 ++ [sdV b h2] = t' := by simpa using e1
        subst e2
        have hwr : IntKind.i64.wrap (o2.getD h2.toNat 0 + 1) = nat o2 h2 + 1 := wr_in _ (by show -9223372036854775808 ≤ nat o2 h2 + 1; omega) (by show nat o2 h2 + 1 ≤ 9223372036854775807; omega)
        refine ⟨by omega, by omega, ⟨hhin.1.1, by rw [hol]; exact hhin.1.2⟩, fun _ => ⟨by have := hhin.1; rw [hol]; omega, ⟨hvin.1, by rw [hol]; exact hvin.2⟩, by rw [hol]; omega, by omega, by omega, ⟨o2.set (sdV b h2).toNat (nat o2 h2 + 1), h2, t2 ++ [sdV b h2], i2, k + 1, by omega, B', by omega, ?_, by rw [h']; exact hu2⟩, ⟨AV.int_inj' (wr_succ k (by omega)), by rw [hwr, i64s_set], rfl⟩, rfl, by dsimp only; omega⟩⟩
        intro c hc z hz
        rcases hmt c hc with h | rfl
        · exact u' z (sd_in hv (List.mem_of_mem_take h) hz) (hs2 c h z hz)
        · exact s' z hz
      · refine ⟨⟨o2, h2, t2, i2, k + 1, by omega, hB2, hm2, ?_, hu2⟩, ⟨AV.int_inj' (wr_succ k (by omega)), rfl, rfl⟩, rfl, by dsimp only; omega⟩
        intro c hc z hz
        rcases hmt c hc with h | rfl
        · exact hs2 c h z hz
        · cases hK : sdK c h2 with
          | false => rw [sd_not hK] at hz; cases hz
          | true =>
            rw [sd_of hK] at hz
            injection hz with hz
            rw [hK, Bool.true_and] at hcd
            have := of_decide_eq_false hcd
            rw [← hz]
            show 0 ≤ o2.getD (sdV c h2).toNat 0
            omega
    · have hk1 := of_decide_eq_false hk1
      obtain rfl : k = m.bs.length := by omega
      rw [List.take_length] at hs2
      have hP := hB2.pop hv hs2
      refine ⟨by omega, ⟨o2, t2, i2 + 1, hP, ?_, fun h hh => ?_⟩, ⟨rfl, rfl⟩, by dsimp only; omega⟩
      · simp only [ms, List.length_cons] at hm2 ⊢
        omega
      · have hmem : h ∈ t2 := List.mem_of_mem_head? (by rw [hh]; rfl)
        have := hB2.qm _ _ rfl h (hB2.qa h (List.mem_cons_of_mem _ hmem)).1
        omega
  · have hc := of_decide_eq_false hc
    have hQ : Q = [] := List.eq_nil_of_length_eq_zero (by omega)
    subst hQ
    rw [hB.eq_ds hv hx]
end Go.Proofs.Yteakklbbdfgbdaa
