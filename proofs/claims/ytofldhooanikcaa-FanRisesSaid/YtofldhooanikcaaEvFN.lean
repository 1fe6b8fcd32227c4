/- A part of the proof: symbolic evaluation of the program's functions, proved sound against the model; no condition. -/
import Derived.Test.YtofldhooanikcaaEvFL
namespace Go.Proofs.Ytofldhooanikcaa
open Go Go.RowKit Go.Ev
set_option linter.unusedSimpArgs false
set_option linter.unusedVariables false
set_option maxRecDepth 20000
theorem i64s_nil : ([] : List (List AV)) = i64s [] := rfl
/-- FanRises: the loop that fills the greater readings. -/
structure K5 where
  z : Zn
  s : Sp
  i : Nat
  u : Int
  rs : List Int
  hg : List Int
  ks : List Bool
  hz : GZ z
  hs : GS s
  hu : 0 ≤ u ∧ u ≤ 65535
  hi : i ≤ rs.length
  hr : GR z rs ks
  hl : hg.length = rs.length
  hh : ∀ j, rs.getD j 0 ≤ hg.getD j 0
  hq : ∀ j, i ≤ j → hg.getD j 0 = rs.getD j 0
def S5 (X : List Int) (p : K5) : SL := ⟨[(1, .lst [.int .u16 0] (u16s X)), (2, .int .u16 p.u), (8, .ptr 576 0), (9, .ptr 640 0), (10, .vw 2176 0 0 0), (11, .vw 2177 0 0 0), (12, .vw 2432 0 0 0), (39, .int .i64 p.rs.length), (40, .int .i64 p.i)], [(576, .cells p.z.cs), (640, .cells p.s.cs), (2176, .buf 2 [.int .i64 0] (i64s p.rs)), (2177, .buf 4 [.bool false] (bls p.ks)), (2432, .buf 2 [.int .i64 0] (i64s p.hg))]⟩
def L5 (X : List Int) : LI := ⟨K5, S5 X, fun p => p.rs.length - p.i, fun _ _ => True⟩
def I5 (X : List Int) : Nat → LI := fun n => L5 X
theorem I5a (X : List Int) (n : Nat) : I5 X n = L5 X := rfl
theorem L5S (X : List Int) : (L5 X).S = S5 X := rfl
theorem L5R (X : List Int) (p q) : (L5 X).R p q = True := rfl
theorem ex1_mono {z : Zn} (h : VZ z) {r q : Int} (hr : r ≤ q) : ex1 z r ≤ ex1 z q := by
  simp only [VZ] at h
  simp only [ex1, lim, W]
  rw [wr_in (max (-1000000000000) (min r 1000000000000) - z.tgt) (by omega) (by omega), wr_in (max (-1000000000000) (min q 1000000000000) - z.tgt) (by omega) (by omega), flr_eq (by omega) (by omega), flr_eq (by omega) (by omega)]
  omega
theorem exV_mono {z : Zn} (h : VZ z) {rs qs : List Int} (hl : qs.length = rs.length) (hh : ∀ j, rs.getD j 0 ≤ qs.getD j 0) : exV z rs ≤ exV z qs := by
  have key : ∀ (rs qs : List Int) (o p : Int), o ≤ p → qs.length = rs.length → (∀ j, rs.getD j 0 ≤ qs.getD j 0) → rs.foldl (fun o r => max o (ex1 z r)) o ≤ qs.foldl (fun o r => max o (ex1 z r)) p := by
    intro rs
    induction rs with
    | nil => intro qs o p h1 h2 _; cases qs with
      | nil => exact h1
      | cons _ _ => simp at h2
    | cons r rs ih =>
      intro qs o p h1 h2 h3
      cases qs with
      | nil => simp at h2
      | cons q qs =>
        have h4 : r ≤ q := by simpa using h3 0
        have h5 := ex1_mono h h4
        simp only [List.foldl_cons]
        exact ih qs _ _ (by omega) (by simpa using h2) (fun j => by simpa using h3 (j + 1))
  exact key rs qs _ _ (by omega) hl hh
theorem ctl_mono {z : Zn} {o u v e f : Int} (h : VZ z) (h1 : z.least ≤ o ∧ o ≤ z.most) (h2 : 0 ≤ u ∧ u ≤ 1000 * (z.most - z.least)) (h3 : 0 ≤ v ∧ v ≤ 1000 * (z.most - z.least)) (he : -100000 ≤ e ∧ e ≤ 100000) (hf : -100000 ≤ f ∧ f ≤ 100000) (huv : u ≤ v) (hef : e ≤ f) :
    (ctl z ⟨o, u⟩ e).out ≤ (ctl z ⟨o, v⟩ f).out ∧ (ctl z ⟨o, u⟩ e).sum ≤ (ctl z ⟨o, v⟩ f).sum := by
  obtain ⟨a1, a2⟩ := ctl_eq (s := ⟨o, u⟩) h h1 h2 he
  obtain ⟨b1, b2⟩ := ctl_eq (s := ⟨o, v⟩) h h1 h3 hf
  have hv := h
  simp only [VZ] at hv
  have m1 : z.intg * e ≤ z.intg * f := Int.mul_le_mul_of_nonneg_left hef hv.2.2.2.1.1
  have m2 : z.gain * e ≤ z.gain * f := Int.mul_le_mul_of_nonneg_left hef hv.2.2.1.1
  dsimp only at a1 a2 b1 b2
  have hs : (ctl z ⟨o, u⟩ e).sum ≤ (ctl z ⟨o, v⟩ f).sum := by rw [a1, b1]; omega
  refine ⟨?_, hs⟩
  rw [a2, b2]
  omega
theorem stpE_len {z : Zn} {s t : Sp} {rs qs : List Int} {ks : List Bool} (h : sd z s = sd z t) (hl : qs.length = rs.length) : stpE z s rs ks = stpE z t qs ks := by
  have e : lenOK z rs ks = lenOK z qs ks := by simp only [lenOK, hl]
  unfold stpE
  rw [h, e]
theorem exOK_len {z : Zn} {rs qs : List Int} {ks : List Bool} (hl : qs.length = rs.length) : exOK z rs ks = exOK z qs ks := by
  simp only [exOK, hl]
theorem stpE_0 {z : Zn} {s : Sp} {rs : List Int} {ks : List Bool} (h : stpE z s rs ks = 0) : sd z s = true ∧ lenOK z rs ks = true := by
  simp only [stpE] at h
  cases h1 : sd z s with
  | false => rw [h1] at h; simp at h
  | true => cases h2 : lenOK z rs ks with
    | false => rw [h1, h2] at h; simp at h
    | true => exact ⟨rfl, rfl⟩
theorem stp_mono {z : Zn} {o u v : Int} {rs qs : List Int} {ks : List Bool} (h1 : stpE z ⟨o, u⟩ rs ks = 0) (h2 : stpE z ⟨o, v⟩ qs ks = 0) (huv : u ≤ v) (hl : qs.length = rs.length) (hh : ∀ j, rs.getD j 0 ≤ qs.getD j 0) :
    (stp z ⟨o, u⟩ rs ks).out ≤ (stp z ⟨o, v⟩ qs ks).out ∧ (stp z ⟨o, u⟩ rs ks).sum ≤ (stp z ⟨o, v⟩ qs ks).sum := by
  obtain ⟨s1, l1⟩ := stpE_0 h1
  obtain ⟨s2, l2⟩ := stpE_0 h2
  have b1 := sd_bd s1
  have b2 := sd_bd s2
  have hx := exOK_len (z := z) (ks := ks) hl
  cases h3 : exOK z rs ks with
  | false =>
    rw [h3] at hx
    obtain ⟨a1, a2, _⟩ := stp_unk s1 l1 h3
    obtain ⟨c1, c2, _⟩ := stp_unk s2 l2 hx.symm
    rw [a1, a2, c1, c2]
    exact ⟨Int.le_refl _, huv⟩
  | true =>
    rw [h3] at hx
    rw [(stp_ok s1 h3).1, (stp_ok s2 hx.symm).1]
    exact ctl_mono b1.1 b1.2.1 b1.2.2 b2.2.2 (exV_bd _ _) (exV_bd _ _) huv (exV_mono b1.1 hl hh)
set_option maxHeartbeats 4000000 in
theorem walk5 {Phi : Nat → Option Ctr} (P9 : Phi 9 = some CAwake) (P10 : Phi 10 = some CNw) (P11 : Phi 11 = some CZo) (P12 : Phi 12 = some CSpd) (P13 : Phi 13 = some CRd) (P18 : Phi 18 = some CSp) (L : List Int) (hL : Okb L) (X : List Int) (hX : ∀ x ∈ X, 0 ≤ x ∧ x ≤ 65535) (u : Int) (hu : 0 ≤ u ∧ u ≤ 65535) : evC Phi (I5 X) rc5 ⟨initS [.lst [.int .u8 0] (u8s L), .lst [.int .u16 0] (u16s X), .int .u16 u], initM false []⟩ (kRet rv5 (.bool true) false []) := by
  simp (config := {maxSteps := 2000000}) only [rc5, initM_f, rv5, evC_seq, evC_region, eo_mov, evG_no, Option.getD_some, ev_mov, av_c, gv_bool, bind1_some', un1_mov, goOp_some, put_q, evOps_nil, kEnd_at, hasG_no, hasG_nil, kEndB_f, kSeq_n, eo_call, P9, CAwake, evCl_mk, ev_call, avs_nil, clO_some, call_pure, lends_nil, callN_some, callP_some, List.nil_append, c2_bool, flat2_bool, backOK_nil, Bool.and_self, clQ_t, eo_not, ev_not, av_t, upd_at, Nat.reduceEqDiff, initS_at, List.getD_cons_succ, if_false, if_true, un1_not, Bool.not_true, evC_cond, evC_ret, kSeq_r, kRet_r, retOK_eq, retL_cons, retV_t, retL_nil, consO_some, lkR_one, lk1_bool, lkT_f, applyL_nil, retOK_f, rtO_some, resV_one, leV1_bool, and_true, knowL_nil, askL_nil, evC_skip, List.getD_cons_zero, gv_lst, P10, CNw, evCl_ext, avs_cons, gv_int, evXV_some, evX_f, lends_cons, lend1_lst, lend1_int, consL_some', evXA_some, decU_u8s, and_self, Int.reduceLE, Int.reduceToNat, evXN_some, evXP_eq, wfX2_fp, List.all_cons, c0_lst, c0_int, List.all_nil, frs2_fp, idsOK_eq, List.map_cons, List.map_nil, nodupN_cons, List.contains_nil, Bool.not_false, nodupN_nil, Nat.reduceLT, decide_true, flatX2_fp, flat0_lst, flat0_int, Bool.and_true, flatL_cells, flatL_nil, backX_nil, putX_eq, unfr2_fp, Nat.reduceMul, Nat.reduceAdd, Nat.add_zero, addF_cons, addF_nil, putY_eq, killS_at, gv_ptr, P11, CZo, Zn.av, eo_alloc, ev_alloc, eo_store, evX_t, updM_at, killM_at, killO_none, evXC_cells, evXB_some, true_and, evXM_some, evXS_eq, wfX2_agg, wfX0_lst, wfX0_int, frs2_agg, frsL_cons, frs0_lst, frs0_int, frsL_nil, flatX2_agg, flatX0_lst, flatX0_int, setB_eq, unfr2_agg, unfr0_lst, unfr0_int, put_n, killB_cells, kill0_nil, kill0_int, ar_t, kill3_agg, kill0_lst, vwsT_ptr, frzL_nil, goF_eq, Option.getD_none, ev_store, gv_agg, bind2_some', store_ptr, cells_agg, List.length_cons, List.length_nil, Nat.zero_add, stB_cells, Nat.reduceLeDiff, stC_true, setC_cons, List.set_cons_zero, List.set_cons_succ, setC_nil, put_s, kill3_ptr, eo_load, ev_load, load_ptr, ldB_cells, valOf_agg, valB_true, List.drop_zero, List.take_succ_cons, List.take_zero, ldV_some, P12, CSpd, Sp.av, killO_some, lend1_agg, lendC_cons, lendA_lst, lendA_int, lendC_nil, aggL_some, Zn.eta, Bool.true_and, P13, CRd, wfX2_tup, wfX1_fr, frs2_tup, frsV_cons, frs1_fr, frsV_nil, List.cons_append, List.contains_cons, Nat.reduceBEq, Bool.or_false, flatX2_tup, flatX1_fr, flatC_int, flatC_bool, flatL_buf, unfr2_tup, unfr1_fr, gv_tup, eo_extract, ev_extract, un1_extract, List.getElem?_cons_zero, toR_some', List.getElem?_cons_succ, gv_vw, eo_append, ev_append, gv_nil, appR_nil, ysOf_vw, killB_buf, ysV_buf, appK_some, i64s_len, eo_len, ev_len, len_vw, lenV_buf, evC_block, evC_loop, I5a, L5S, S5, Zn.cs, Sp.cs, SL_ge, lkL_cons, kill3_lst, lkS_lst, kill3_int, lkS_int, lkS_ptr, kill3_vw, lkS_vw_vw, beq_self_eq_true, renK_t, lkL_nil, lkM_cons, lkB_cells, lkC_cons, lkC0_lst, lkC0_int, lkC_nil, lkB_buf, lkM_nil, SL_ge0, leL_cons, leV1_lst, leV1_int, leV1_ptr, leV1_vw, leL_nil, leM_cons, leB_cells, leAs_cons, leA_lst, leA_int, leAs_nil, leB_buf, leM_nil, L5R, SL_st, eo_cmp, ev_cmp, lookL_cons, lookL_nil, cmp2_some, cmp_lss, lookM_cons, lookM_nil, bls_len, eo_minmax, ev_minmax, mmO_some, mm_max, mm_nil, eo_arith, ev_arith, arith_rem, eo_iaddrS, ev_iaddrS, iaddrS_vw, iasV_buf, iasW_t, ar_c, vwsT_bp, vws1_bool, gv_bp, store_bp, cells_bool, stP_buf, c0_bool, stQ_t, getE_bl, bls_set, len_lst, u16s_len, evC_draw, preK_some, needD_mov, preB_f, needD_iaddrS, needD_load, needD_conv, needD_arith, preK_none, preK_nil, evD_cons, evDk_some, newOK_none, Int.toNat_natCast, load_bp, ldP_buf, getE_i64, valOf_one, ldQ_t, iaddrS_lst, iasB_true, gv_ep, load_ep, getE_u16, ev_conv, un1_conv, arith_mul, arith_add, cells_int, i64s_set, evD_nil, kBlk_n, kLoop_n, knowD_cons, knowD_nil, knowL_cons, pairD_cons, pairOK_eq, newMen_none, Bool.or_true, pairB_t, pairD_nil, askL_cons, pairB_f, chkR_eq, pslots_int, optN_some, disjN_nil, newI_none, pslots_bp, pslots_vw, pslots_ep, pslots_lst, condK_bool, evC_exit, kSeq_e, kLoop_e, kBlk_e, kBlkB_t, kill3_junk, eo_faddr, ev_faddr, faddr_ptr, eo_conv, P18, CSp, lend1_vw, lendB_buf, decI_i64s, decB_bls, Sp.eta, c2_tup, c1_agg, c1_int, flat2_tup, flat1_agg, flat1_int, backOK_cons, cmp_neq, evG_yes, pathG_bool, gG_some, guardR_q, guardL_nil, gv_gd, gvB_true, cmp_eql, pathG_gd, Bool.true_or, eo_pick, ev_pick, pick3_some, pickV_bool, Bool.cond_true_left, Bool.cond_false_right, hasG_yes, kEndB_t, ungdS_at, ungd_junk, ungd_int, ungd_ptr, cmp_geq, ungd_bool, true_imp_iff, Bool.false_eq_true, false_imp_iff]
  intro _
  have hT := okb_take hL 100
  refine ⟨hT, fun q ⟨hz, ha⟩ => ⟨⟨⟨hT, ha⟩, hz⟩, fun q1 ⟨hs, ha1⟩ => ⟨⟨⟨hT, ha1⟩, hz⟩, fun q2 ⟨hr, _⟩ => ?_⟩⟩⟩
  have h8 := hz.s8
  have hrl := hr.r
  refine ⟨by omega, by omega, fun _ => ?_⟩
  refine ⟨⟨q.1, q1.1, 0, u, q2.1, q2.1, q2.2.1, hz, hs, hu, by omega, hr, rfl, fun _ => Int.le_refl _, fun _ _ => rfl⟩, ⟨⟨rfl, rfl, rfl⟩, ⟨rfl, rfl, rfl, rfl, rfl, rfl, rfl⟩, ⟨rfl, rfl⟩, rfl, rfl, rfl⟩, ?_⟩
  rintro ⟨z, s, i, u, rs, hg, ks, hz, hs, hu, hi, hr, hl, hh, hq⟩
  dsimp only
  have h8 := hz.s8
  have h1 := hz.s1
  have hrl := hr.r
  have hkl := hr.k
  refine ⟨fun hc _ => ?_, fun hc => ?_⟩
  · have hc := of_decide_eq_true hc
    have hm : ((i : Int)).tmod (max 1 (ks.length : Int)) = (i : Int) % (max 1 (ks.length : Int)) := Int.tmod_eq_emod_of_nonneg (by omega)
    have hm0 : 0 ≤ (i : Int) % (max 1 (ks.length : Int)) := Int.emod_nonneg _ (by omega)
    have hm1 : (i : Int) % (max 1 (ks.length : Int)) < (max 1 (ks.length : Int)) := Int.emod_lt_of_pos _ (by omega)
    rw [hm]
    have hr2 : GR z rs (ks.set ((i : Int) % (max 1 (ks.length : Int))).toNat true) := ⟨by simp [hkl], hrl, hr.b⟩
    have hn1 : IntKind.i64.wrap ((i : Int) + 1) = ((i + 1 : Nat) : Int) := by rw [wr_in _ (by omega) (by omega)]; omega
    refine ⟨by omega, ⟨by omega, by omega⟩, fun _ => ⟨by omega, fun _ => ⟨fun hX1 => ?_, fun hX1 => ?_⟩⟩⟩
    · have hX1 := of_decide_eq_true hX1
      have hb : -10000000000000 ≤ rs.getD i 0 ∧ rs.getD i 0 ≤ 10000000000000 := getD_all (p := fun x => -10000000000000 ≤ x ∧ x ≤ 10000000000000) hr.b (by decide) _
      have hqi := hq i (Nat.le_refl _)
      have hgx : 0 ≤ X.getD i 0 ∧ X.getD i 0 ≤ 65535 := getD_all (p := fun x => 0 ≤ x ∧ x ≤ 65535) hX (by decide) _
      have hw : IntKind.i64.wrap (hg.getD i 0 + IntKind.i64.wrap (IntKind.i64.wrap (X.getD i 0) * 1000)) = hg.getD i 0 + X.getD i 0 * 1000 := by
        rw [wr_in (X.getD i 0) (by omega) (by omega), wr_in (X.getD i 0 * 1000) (by omega) (by omega), wr_in _ (by omega) (by omega)]
      rw [hw]
      refine ⟨⟨by omega, by omega⟩, by omega, ⟨by omega, by omega⟩, ⟨by omega, by omega⟩, by omega, fun _ _ _ => ⟨⟨z, s, i + 1, u, rs, hg.set i (hg.getD i 0 + X.getD i 0 * 1000), ks.set ((i : Int) % (max 1 (ks.length : Int))).toNat true, hz, hs, hu, by omega, hr2, by simp [hl], ?_, ?_⟩, ⟨⟨rfl, rfl, AV.int_inj' hn1⟩, ⟨rfl, rfl, rfl, rfl, rfl, rfl, rfl⟩, ⟨rfl, rfl⟩, rfl, rfl, rfl⟩, by simp only [L5]; omega⟩⟩
      · intro j
        have hj := hh j
        by_cases e : i = j
        · subst e
          have hx : (hg.set i (hg.getD i 0 + X.getD i 0 * 1000)).getD i 0 = hg.getD i 0 + X.getD i 0 * 1000 := by
            have : i < hg.length := by omega
            simp [List.getD_eq_getElem?_getD, List.getElem?_set, this]
          rw [hx]; omega
        · have hx : (hg.set i (hg.getD i 0 + X.getD i 0 * 1000)).getD j 0 = hg.getD j 0 := by
            rw [List.getD_eq_getElem?_getD, List.getElem?_set_ne e, ← List.getD_eq_getElem?_getD]
          rw [hx]; exact hj
      · intro j hj
        have e : i ≠ j := by omega
        rw [List.getD_eq_getElem?_getD, List.getElem?_set_ne e, ← List.getD_eq_getElem?_getD]
        exact hq j (by omega)
    · exact ⟨⟨z, s, i + 1, u, rs, hg, ks.set ((i : Int) % (max 1 (ks.length : Int))).toNat true, hz, hs, hu, by omega, hr2, hl, hh, fun j hj => hq j (by omega)⟩, ⟨⟨rfl, rfl, AV.int_inj' hn1⟩, ⟨rfl, rfl, rfl, rfl, rfl, rfl, rfl⟩, ⟨rfl, rfl⟩, rfl, rfl, rfl⟩, by simp only [L5]; omega⟩
  · have hsu := hs.u
    have hw : IntKind.i64.wrap (s.sum + IntKind.i64.wrap u) = s.sum + u := by
      rw [wr_in u (by omega) (by omega), wr_in _ (by omega) (by omega)]
    rw [hw]
    have e1 : stpE z s rs ks = stpE z s hg ks := stpE_len rfl hl
    refine ⟨fun h2 => ?_, fun _ => AV.bool_inj' ?_⟩
    · exfalso
      rw [← e1] at h2
      simp only [decide_true, Bool.not_true, Bool.false_or, Bool.and_eq_true, decide_eq_true_eq, Bool.or_eq_true] at h2
      have := stp_mono (o := s.out) (u := s.sum) (v := s.sum) h2.1 (by rw [e1] at h2; exact h2.1) (Int.le_refl _) hl hh
      rw [Sp.eta] at this
      omega
    · by_cases h2 : stpE z s rs ks = 0
      · by_cases h3 : stpE z ⟨s.out, s.sum + u⟩ rs ks = 0
        · have := stp_mono (o := s.out) (u := s.sum) (v := s.sum + u) h2 h3 (by omega) rfl (fun _ => Int.le_refl _)
          rw [Sp.eta] at this
          simp [this.1, this.2]
        · simp [h3]
      · simp [h2]
end Go.Proofs.Ytofldhooanikcaa
