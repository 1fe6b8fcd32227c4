/- A part of the proof: symbolic evaluation of the program's functions, proved sound against the model; no condition. -/
import Derived.Test.YtknapnleecepaaaEvJL
namespace Go.Proofs.Ytknapnleecepaaa
open Go Go.RowKit Go.Ev
set_option linter.unusedSimpArgs false
set_option linter.unusedVariables false
set_option maxRecDepth 20000
structure K7a (d : List Int) (brk : Bool) where
  w : List Int
  rest : List Int
  out : List Int
  wi : Bool
  sq : Int
  ct : Int
  nb : Int
  nn : Int
  h : J7 d brk w rest out wi sq ct nb nn
def S7a (d : List Int) (brk : Bool) (p : K7a d brk) : SL := ⟨[(0, .lst [.int .u8 0] (u8s d)), (1, .bool brk), (5, .ptr 384 0), (6, .ptr 448 0), (7, .vw 3200 0 0 0), (8, .int .i64 p.nb), (9, .int .i64 p.nn), (10, .lst [.int .u8 0] (u8s p.rest))], [(384, .cells [.lst [.int .u8 0] (u8s (aL p.w p.wi p.sq).w), .bool (aL p.w p.wi p.sq).wi, .lst [.int .u8 0] (u8s (aL p.w p.wi p.sq).s), .bool (aL p.w p.wi p.sq).sb, .bool (aL p.w p.wi p.sq).bu, .int .i64 (aL p.w p.wi p.sq).sq, .int .i64 (aL p.w p.wi p.sq).rc, .int .i64 (aL p.w p.wi p.sq).ro, .int .i64 (aL p.w p.wi p.sq).ak, .int .i64 (aL p.w p.wi p.sq).ct]), (448, .cells [.lst [.int .u8 0] (u8s (bL p.sq p.ct).w), .bool (bL p.sq p.ct).wi, .lst [.int .u8 0] (u8s (bL p.sq p.ct).s), .bool (bL p.sq p.ct).sb, .bool (bL p.sq p.ct).bu, .int .i64 (bL p.sq p.ct).sq, .int .i64 (bL p.sq p.ct).rc, .int .i64 (bL p.sq p.ct).ro, .int .i64 (bL p.sq p.ct).ak, .int .i64 (bL p.sq p.ct).ct]), (3200, .buf 5 [.int .u8 0] (u8s p.out))]⟩
abbrev L7a (d : List Int) (brk : Bool) : LI := ⟨K7a d brk, S7a d brk, fun p => (d.length - p.out.length) + (if p.wi = true then 1 else 0), fun p q => True⟩
theorem L7aS (d : List Int) (brk : Bool) : (L7a d brk).S = S7a d brk := rfl
theorem L7aM (d : List Int) (brk : Bool) (p : K7a d brk) : (L7a d brk).μ p = (d.length - p.out.length) + (if p.wi = true then 1 else 0) := rfl
theorem L7aR (d : List Int) (brk : Bool) (p q : K7a d brk) : (L7a d brk).R p q = (True) := rfl
def I7 (d : List Int) (brk : Bool) : Nat → LI := fun n => L7a d brk
theorem I7_0 (d : List Int) (brk : Bool) : I7 d brk 0 = L7a d brk := rfl
set_option maxHeartbeats 4000000 in
theorem walk7 {Phi : Nat → Option Ctr} (P8 : Phi 8 = some DAw) (P32 : Phi 32 = some DNw) (P29 : Phi 29 = some DBr) (P21 : Phi 21 = some DWr) (P23 : Phi 23 = some DPo) (P11 : Phi 11 = some DDe) (P18 : Phi 18 = some DRe) (P16 : Phi 16 = some DGr) (d : List Int) (brk : Bool) (hd : Okb d) : evC Phi (I7 d brk) rc7 ⟨initS [.lst [.int .u8 0] (u8s d), .bool brk], initM false []⟩ (kRet rv7 (.bool true) false []) := by
  simp (config := {maxSteps := 2000000, contextual := true}) only [rc7, initM_f, rv7, evC_seq, evC_region, eo_mov, evG_no, Option.getD_some, ev_mov, av_c, gv_bool, bind1_some', un1_mov, goOp_some, put_q, evOps_nil, kEnd_at, hasG_no, hasG_nil, kEndB_f, kSeq_n, eo_call, P8, DAw, evCl_mk, ev_call, avs_nil, clE_some, callE_pure, lends_nil, callN_some, callP_some, List.nil_append, c2_bool, flat2_bool, backOK_nil, Bool.and_self, clQ_t, eo_not, ev_not, av_t, upd_at, ↓reduceIte, un1_not, Bool.not_true, evC_cond, evC_ret, kSeq_r, kRet_r, retOK_eq, retL_cons, retV_t, retL_nil, consO_some, lkR_one, lk1_bool, lkT_f, applyL_nil, retOK_f, rtO_some, resV_one, leV1_bool, and_true, knowL_nil, askL_nil, evC_skip, Nat.reduceEqDiff, initS_at, List.getD_cons_zero, gv_lst, eo_len, ev_len, len_lst, u8s_len, eo_cmp, ev_cmp, gv_int, cmp2_some, cmp_gtr, toR_some', and_self, P32, DNw, Ln.av, c2_agg, List.all_cons, c0_lst, c0_bool, c0_int, List.all_nil, flat2_agg, flat0_lst, flat0_bool, flat0_int, Bool.and_true, Bool.true_and, eo_alloc, ev_alloc, Nat.reduceMul, Nat.reduceAdd, put_n, killB_cells, List.map_cons, kill0_nil, kill0_bool, kill0_int, List.map_nil, eo_store, ar_t, killS_at, kill3_agg, kill0_lst, kill3_ptr, vwsT_ptr, frzL_nil, goF_eq, Option.getD_none, ev_store, gv_ptr, gv_agg, bind2_some', store_ptr, cells_agg, List.length_cons, List.length_nil, Nat.zero_add, updM_at, killM_at, killO_some, stB_cells, Nat.reduceLeDiff, decide_true, stC_true, setC_cons, List.set_cons_zero, List.set_cons_succ, setC_nil, put_s, liveB_cells, gv_nil, List.getD_cons_succ, kill3_bool, eo_load, ev_load, load_ptr, ldB_cells, valOf_agg, valB_true, List.drop_zero, List.take_succ_cons, List.take_zero, ldV_some, P29, DBr, avs_cons, lends_cons, lend1_agg, lendC_cons, lendA_lst, lendA_bool, lendA_int, lendC_nil, consL_some', aggL_some, decU_u8s, true_and, kill3_lst, evC_block, evC_loop, I7_0, L7aS, S7a, SL_ge, lkL_cons, lkS_lst, lkS_bool, lkS_ptr, lkS_nil_vw, lookM_cons, nlK_buf, lkS_int, lkL_nil, List.cons_append, lkM_cons, lkB_cells, lkC_cons, lkC0_lst, lkC0_bool, lkC0_int, lkC_nil, killO_none, lkB_buf, lkM_nil, applyL_nls, nlV_nil, Nat.reduceLT, nlP_t, SL_ge0, leL_cons, leV1_lst, leV1_ptr, leV1_vw, kill3_int, leV1_int, leL_nil, leM_cons, leB_cells, leAs_cons, leA_lst, leA_bool, leA_int, leAs_nil, leB_buf, leM_nil, L7aR, SL_st, lookL_cons, P21, DWr, lend1_lst, Ln.eta, c2_tup, c1_agg, c1_int, flat2_tup, flat1_agg, flat1_int, gv_tup, eo_extract, ev_extract, un1_extract, List.getElem?_cons_zero, List.getElem?_cons_succ, evC_draw, preK_some, needD_load, preB_f, needD_mov, needD_slice, preK_none, preK_nil, evD_cons, evDk_some, newOK_none, ev_slice, boundA_some, optS_some, boundA_none, sliceO_some, slice_lst, loOf_int, hiOf_none, beq_self_eq_true, slL_some, Int.toNat_natCast, u8s_drop, u8s_take, evD_nil, P23, DPo, c1_lst, c1_bool, flat1_lst, flat1_bool, kill3_vw, gv_vw, eo_b2s, ev_b2s, b2s_vw, killB_buf, b2sB_buf, ByteE_u8s, bytesOf_u8s, b2s_lst, gv_str, cmp_eqlS, evG_yes, pathG_bool, gG_some, guardR_q, guardL_nil, gv_gd, List.contains_cons, List.contains_nil, Bool.or_false, gvB_true, cmp_eql, eo_pick, ev_pick, pick3_some, pickV_bool, Bool.cond_false_right, cmp_eqlB, cmp_leq, hasG_yes, kEndB_t, kBlk_r, kLoop_r, ungdS_at, ungd_bool, askL_cons, P11, DDe, Ck.av, cmp_neq, eo_faddr, ev_faddr, faddr_ptr, Nat.add_zero, valOf_one, eo_arith, ev_arith, arith_rem, guardL_cons, pathP_cons, boolOf_bool, pathP_nil, arith_add, nx_wr, Bool.cond_true_left, ungd_int, ungd_ptr, ungd_lst, P18, DRe, implies_true, cmp_neqS, P16, DGr, lend1_int, ungd_vw, eo_append, ev_append, appR_vw, ysOf_lst, appV_buf, appK_some, Nat.mul_one, u8s_join, kBlk_n, kLoop_n, lkS_vw_vw, renK_t, condK_bool, knowL_cons, knowD_cons, knowD_nil, pairD_cons, pairOK_eq, newMen_none, Nat.reduceBEq, Bool.or_true, pairB_t, pairD_nil, pairB_f, chkR_eq, pslots_junk, optN_some, disjN_nil, pslots_lst, optN_none, newI_none, disjN_cons, Bool.not_false, pslots_int, pslots_agg, true_imp_iff, Bool.false_eq_true, false_imp_iff]
  intro hl3
  intro hl4
  have hl4 := of_decide_eq_false hl4
  refine ⟨fun hbrk => ⟨⟨Nat.zero_le _, Nat.zero_le _⟩, ⟨[], d, [], true, 0, 0, 0, 0, ⟨Nat.zero_le _, by decide, by decide, rfl, by decide, by decide, by simp, fun _ => hbrk⟩⟩, ⟨⟨rfl, rfl, rfl⟩, ?_, ⟨rfl, rfl, rfl, rfl, rfl, rfl, rfl, rfl, rfl, rfl⟩, rfl⟩, ?_⟩, fun hbrk => ⟨⟨[], d, [], false, 0, 0, 0, 0, ⟨Nat.zero_le _, by decide, by decide, rfl, by decide, by decide, by simp [hbrk], fun h => (by cases h)⟩⟩, ⟨⟨rfl, rfl, rfl⟩, ⟨rfl, rfl, rfl, rfl, rfl, rfl, rfl, rfl, rfl, rfl⟩, ⟨rfl, rfl, rfl, rfl, rfl, rfl, rfl, rfl, rfl, rfl⟩, rfl⟩, ?_⟩⟩
  · have e := br_0
    simp only [e, and_self]
  · skip
    rintro ⟨w, rest, out, wi, sq, ct, nb, nn, h⟩
    dsimp only
    obtain ⟨e1, e2⟩ := wr_a h.hw h.hs wi rest
    have hw := h.hw
    have hs := h.hs
    have hc := h.hc
    have hn := h.hn
    have hq := h.hq
    have hkk := h.hk
    have hdl := congrArg List.length h.hd
    simp only [List.length_append] at hdl
    have hJe := j7_end h
    have hJg := j7_go h
    have hokw : Okb w := fun k hk => hd k (by rw [← h.hd]; simp [hk])
    have hokr : Okb rest := fun k hk => hd k (by rw [← h.hd]; simp [hk])
    have hl : (w ++ rest.take (min rest.length (1024 - w.length))).length ≤ 1024 := by
      rw [List.length_append, List.length_take]; omega
    have hok : Okb (w ++ rest.take (min rest.length (1024 - w.length))) := .app hokw (hokr.take _)
    rw [e2] at hJe hJg
    simp only [e1, e2]
    have hNr : min rest.length (1024 - w.length) ≤ rest.length := Nat.min_le_left _ _
    generalize hN : min rest.length (1024 - w.length) = N at hl hok hJe hJg hNr ⊢
    generalize hw1 : w ++ rest.take N = w1 at hl hok hJe hJg ⊢
    have hnb : 0 ≤ nb ∧ nb ≤ 1 := by rw [hkk]; split <;> omega
    refine ⟨⟨⟨by show w.length ≤ 100000; omega, Nat.zero_le _⟩, by omega⟩, ⟨by omega, by omega, by omega⟩, ⟨by show w1.length ≤ 100000; omega, Nat.zero_le _⟩, fun hk => ?_, fun hk => ?_⟩
    · have hk : poK (aL w1 wi sq) = false := by simpa using hk
      obtain ⟨q1, q2, q3⟩ := hJe hk
      subst q1
      subst q2
      subst q3
      simp [hkk, hbrk]
    have hk : poK (aL w1 wi sq) = true := by simpa using hk
    obtain ⟨g1, g2, g3⟩ := hJg hk
    obtain ⟨p1, p2, _⟩ := po_a hl hs g3
    obtain ⟨r1, r2, r3, r4⟩ := re_b hs hc w1 wi
    have s1 := gr_b hs (tk_len w1)
    obtain ⟨t1, t2⟩ := po_b hs (tk_len w1)
    obtain ⟨u1, u2⟩ := re_m hl hs wi
    obtain ⟨d1, d2⟩ := de_en (cP_P hs w1 wi)
    have hx : (cP w1 wi sq).sq = nx nn := by show nx sq = nx nn; rw [hq, nx, tmod_nn nn 15 hn.1]
    have htk := tk_len w1
    have hb1 := enB_len (cP w1 wi sq)
    have hb2 := enB_len (cQ sq (w1.take 64).length)
    have ho1 : Okb (enB (cP w1 wi sq)) := enB_ok (c := cP w1 wi sq) (hok.take 64)
    simp only [p1, p2, r1, r2, r3, r4, s1, t1, t2, u1, u2, d1, d2]
    refine ⟨⟨by omega, ho1⟩, fun _ => by decide, fun hz => ?_, fun _ => ⟨⟨⟨Nat.zero_le _, Nat.zero_le _⟩, by omega, ho1⟩, fun hz => by simp [cP] at hz, fun _ => ⟨?_, ?_⟩⟩⟩
    · rw [decide_eq_true hx, decide_eq_false (show ¬ (64 : Int) < ((cP w1 wi sq).d.length : Int) by show ¬ (64 : Int) < ((w1.take 64).length : Int); omega), decide_eq_true (show (cP w1 wi sq).ak = 0 from rfl)] at hz
      simp at hz
    · intro hwi
      try intro _
      refine ⟨⟨Nat.zero_le _, Nat.zero_le _⟩, by omega, by omega, ⟨Nat.zero_le _, Nat.zero_le _⟩, ⟨⟨by show (w1.drop 64).length ≤ 100000; rw [List.length_drop]; omega, by show (w1.take 64).length ≤ 100000; omega⟩, by omega, enB_ok .nil⟩, fun hz => by simp [aL] at hz, fun _ => ?_⟩
      rw [if_pos hwi] at g1
      exact ⟨⟨_, _, _, _, _, _, _, _, g1⟩, ⟨⟨AV.int_inj' (wr_in _ (by omega) (by omega)), AV.int_inj' (wr_in _ (by omega) (by omega)), by rw [List.take_of_length_le (by rw [List.length_drop]; omega)]⟩, ⟨rfl, rfl, rfl, rfl, rfl, rfl, rfl, rfl, rfl, rfl⟩, ⟨rfl, rfl, rfl, rfl, rfl, rfl, rfl, rfl, rfl, rfl⟩, rfl⟩, g2⟩
    · intro hwi
      try intro _
      refine ⟨⟨Nat.zero_le _, Nat.zero_le _⟩, by omega, by omega, ⟨Nat.zero_le _, Nat.zero_le _⟩, ⟨⟨by show (w1.drop 64).length ≤ 100000; rw [List.length_drop]; omega, by show (w1.take 64).length ≤ 100000; omega⟩, by omega, enB_ok .nil⟩, fun hz => by simp [aL] at hz, fun _ => ?_⟩
      rw [if_neg (by rw [hwi]; decide)] at g1
      exact ⟨⟨_, _, _, _, _, _, _, _, g1⟩, ⟨⟨AV.int_inj' rfl, AV.int_inj' (wr_in _ (by omega) (by omega)), by rw [List.take_of_length_le (by rw [List.length_drop]; omega)]⟩, ⟨rfl, rfl, rfl, rfl, rfl, rfl, rfl, rfl, rfl, rfl⟩, ⟨rfl, rfl, rfl, rfl, rfl, rfl, rfl, rfl, rfl, rfl⟩, rfl⟩, g2⟩
  · skip
    rintro ⟨w, rest, out, wi, sq, ct, nb, nn, h⟩
    dsimp only
    obtain ⟨e1, e2⟩ := wr_a h.hw h.hs wi rest
    have hw := h.hw
    have hs := h.hs
    have hc := h.hc
    have hn := h.hn
    have hq := h.hq
    have hkk := h.hk
    have hdl := congrArg List.length h.hd
    simp only [List.length_append] at hdl
    have hJe := j7_end h
    have hJg := j7_go h
    have hokw : Okb w := fun k hk => hd k (by rw [← h.hd]; simp [hk])
    have hokr : Okb rest := fun k hk => hd k (by rw [← h.hd]; simp [hk])
    have hl : (w ++ rest.take (min rest.length (1024 - w.length))).length ≤ 1024 := by
      rw [List.length_append, List.length_take]; omega
    have hok : Okb (w ++ rest.take (min rest.length (1024 - w.length))) := .app hokw (hokr.take _)
    rw [e2] at hJe hJg
    simp only [e1, e2]
    have hNr : min rest.length (1024 - w.length) ≤ rest.length := Nat.min_le_left _ _
    generalize hN : min rest.length (1024 - w.length) = N at hl hok hJe hJg hNr ⊢
    generalize hw1 : w ++ rest.take N = w1 at hl hok hJe hJg ⊢
    have hnb : 0 ≤ nb ∧ nb ≤ 1 := by rw [hkk]; split <;> omega
    refine ⟨⟨⟨by show w.length ≤ 100000; omega, Nat.zero_le _⟩, by omega⟩, ⟨by omega, by omega, by omega⟩, ⟨by show w1.length ≤ 100000; omega, Nat.zero_le _⟩, fun hk => ?_, fun hk => ?_⟩
    · have hk : poK (aL w1 wi sq) = false := by simpa using hk
      obtain ⟨q1, q2, q3⟩ := hJe hk
      subst q1
      subst q2
      subst q3
      simp [hkk, hbrk]
    have hk : poK (aL w1 wi sq) = true := by simpa using hk
    obtain ⟨g1, g2, g3⟩ := hJg hk
    obtain ⟨p1, p2, _⟩ := po_a hl hs g3
    obtain ⟨r1, r2, r3, r4⟩ := re_b hs hc w1 wi
    have s1 := gr_b hs (tk_len w1)
    obtain ⟨t1, t2⟩ := po_b hs (tk_len w1)
    obtain ⟨u1, u2⟩ := re_m hl hs wi
    obtain ⟨d1, d2⟩ := de_en (cP_P hs w1 wi)
    have hx : (cP w1 wi sq).sq = nx nn := by show nx sq = nx nn; rw [hq, nx, tmod_nn nn 15 hn.1]
    have htk := tk_len w1
    have hb1 := enB_len (cP w1 wi sq)
    have hb2 := enB_len (cQ sq (w1.take 64).length)
    have ho1 : Okb (enB (cP w1 wi sq)) := enB_ok (c := cP w1 wi sq) (hok.take 64)
    simp only [p1, p2, r1, r2, r3, r4, s1, t1, t2, u1, u2, d1, d2]
    refine ⟨⟨by omega, ho1⟩, fun _ => by decide, fun hz => ?_, fun _ => ⟨⟨⟨Nat.zero_le _, Nat.zero_le _⟩, by omega, ho1⟩, fun hz => by simp [cP] at hz, fun _ => ⟨?_, ?_⟩⟩⟩
    · rw [decide_eq_true hx, decide_eq_false (show ¬ (64 : Int) < ((cP w1 wi sq).d.length : Int) by show ¬ (64 : Int) < ((w1.take 64).length : Int); omega), decide_eq_true (show (cP w1 wi sq).ak = 0 from rfl)] at hz
      simp at hz
    · intro hwi
      try intro _
      refine ⟨⟨Nat.zero_le _, Nat.zero_le _⟩, by omega, by omega, ⟨Nat.zero_le _, Nat.zero_le _⟩, ⟨⟨by show (w1.drop 64).length ≤ 100000; rw [List.length_drop]; omega, by show (w1.take 64).length ≤ 100000; omega⟩, by omega, enB_ok .nil⟩, fun hz => by simp [aL] at hz, fun _ => ?_⟩
      rw [if_pos hwi] at g1
      exact ⟨⟨_, _, _, _, _, _, _, _, g1⟩, ⟨⟨AV.int_inj' (wr_in _ (by omega) (by omega)), AV.int_inj' (wr_in _ (by omega) (by omega)), by rw [List.take_of_length_le (by rw [List.length_drop]; omega)]⟩, ⟨rfl, rfl, rfl, rfl, rfl, rfl, rfl, rfl, rfl, rfl⟩, ⟨rfl, rfl, rfl, rfl, rfl, rfl, rfl, rfl, rfl, rfl⟩, rfl⟩, g2⟩
    · intro hwi
      try intro _
      refine ⟨⟨Nat.zero_le _, Nat.zero_le _⟩, by omega, by omega, ⟨Nat.zero_le _, Nat.zero_le _⟩, ⟨⟨by show (w1.drop 64).length ≤ 100000; rw [List.length_drop]; omega, by show (w1.take 64).length ≤ 100000; omega⟩, by omega, enB_ok .nil⟩, fun hz => by simp [aL] at hz, fun _ => ?_⟩
      rw [if_neg (by rw [hwi]; decide)] at g1
      exact ⟨⟨_, _, _, _, _, _, _, _, g1⟩, ⟨⟨AV.int_inj' rfl, AV.int_inj' (wr_in _ (by omega) (by omega)), by rw [List.take_of_length_le (by rw [List.length_drop]; omega)]⟩, ⟨rfl, rfl, rfl, rfl, rfl, rfl, rfl, rfl, rfl, rfl⟩, ⟨rfl, rfl, rfl, rfl, rfl, rfl, rfl, rfl, rfl, rfl⟩, rfl⟩, g2⟩
end Go.Proofs.Ytknapnleecepaaa
