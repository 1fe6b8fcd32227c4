/- A part of the proof: symbolic evaluation of the program's functions, proved sound against the model; no condition. -/
import Derived.Test.YtmcaedjlglpdeaaEvKM
namespace Go.Proofs.Ytmcaedjlglpdeaa
open Go Go.RowKit Go.Ev
set_option linter.unusedSimpArgs false
set_option linter.unusedVariables false
set_option maxRecDepth 20000
/-- ClockPairs: the loop that makes the events. -/
structure KP where
  at' : Int
  k : Int
  m : List E
  w : Int
  b : Bool
  ha : 0 ≤ at'
  hk : -1 ≤ k ∧ (m.length : Int) + k ≤ 11
  hm : ∀ x ∈ m, x.st = 1 ∧ 0 ≤ x.time ∧ x.time ≤ 4294967295
def SP (L : List Int) (p : KP) : SL := ⟨[(1, .int .i64 p.w), (2, .bool p.b), (7, .ptr 1792 0), (8, .vw 3200 0 0 0), (9, .int .i64 p.k)], [(1792, .cells [.lst [.int .i64 0] (i64s L), .int .i64 p.at']), (3200, .buf 50 [.int .u16 0, .int .u32 0, .int .u16 0, .int .u8 0, .int .u8 0, .int .u8 0, .bool false, .int .u8 0, .int .u8 0, .int .u8 0] (evs p.m))]⟩
abbrev LP (L : List Int) : LI := ⟨KP, SP L, fun p => (p.k + 1).toNat, fun _ _ => True⟩
/-- ClockPairs: the loop that compares. -/
structure KPb where
  i : Nat
  m : List E
  w : Int
  b : Bool
  hi : i ≤ m.length
  hm : ∀ x ∈ m, x.st = 1 ∧ 0 ≤ x.time ∧ x.time ≤ 4294967295
  hl : m.length ≤ 12
def SPb (p : KPb) : SL := ⟨[(1, .int .i64 p.w), (2, .bool p.b), (8, .lst [.int .u16 0, .int .u32 0, .int .u16 0, .int .u8 0, .int .u8 0, .int .u8 0, .bool false, .int .u8 0, .int .u8 0, .int .u8 0] (evs p.m)), (11, .lst [.int .i64 0] (i64s (recL p.m))), (13, .int .i64 p.i)], []⟩
abbrev LPb : LI := ⟨KPb, SPb, fun p => p.m.length - p.i, fun _ _ => True⟩
def IP (L : List Int) : Nat → LI := fun n => if n = 0 then LP L else LPb
theorem IPa (L : List Int) : IP L 0 = LP L := rfl
theorem IPb (L : List Int) : IP L 1 = LPb := rfl
theorem LPS (L : List Int) : (LP L).S = SP L := rfl
theorem LPR (L : List Int) (p q) : (LP L).R p q = True := rfl
theorem LPbS : LPb.S = SPb := rfl
theorem LPbR (p q) : LPb.R p q = True := rfl
theorem evs_app (l : List E) (x : E) : evs l ++ [[.int .u16 x.id, .int .u32 x.time, .int .u16 x.gen, .int .u8 x.st, .int .u8 x.sensor, .int .u8 x.ty, .bool x.de, .int .u8 x.d0, .int .u8 x.d1, .int .u8 x.d2]] = evs (l ++ [x]) := by simp [evs, E.cs]
theorem evs_take (l : List E) (n : Nat) : (evs l).take n = evs (l.take n) := by simp [evs]
theorem evs_drop (l : List E) (n : Nat) : (evs l).drop n = evs (l.drop n) := by simp [evs]
theorem evs_join (a b : List E) : evs a ++ evs b = evs (a ++ b) := by simp [evs]
theorem evs_st (l : List E) (x : E) : evs l ++ [[.int .u16 x.id, .int .u32 x.time, .int .u16 x.gen, .int .u8 1, .int .u8 x.sensor, .int .u8 x.ty, .bool x.de, .int .u8 x.d0, .int .u8 x.d1, .int .u8 x.d2]] = evs (l ++ [{ x with st := 1 }]) := by simp [evs, E.cs]
theorem isx_st {x : E} {w : Int} (h : x.st = 1) : isx x w = false := by simp [isx, h]
theorem getD_of {l : List E} {i : Nat} (h : i < l.length) : l.getD i E0 ∈ l := by
  rw [List.getD_eq_getElem?_getD, List.getElem?_eq_getElem h]; exact List.getElem_mem h
theorem okR_plain {m : List E} (h : ∀ x ∈ m, x.st = 1) : okR m = true := by
  simp only [okR, List.all_eq_true, List.mem_range, Bool.not_eq_true']
  intro i hi
  have e := h _ (getD_of hi)
  simp only [badR, isx_st e, Bool.false_and, Bool.or_self]
theorem dkR_plain {m : List E} (h : ∀ x ∈ m, x.st = 1) : ∀ k, k ≤ m.length → dkR m k = 0
  | 0, _ => rfl
  | k + 1, hk => by
    have e := h _ (getD_of (show m.length - 1 - k < m.length by omega))
    simp only [dkR, isx_st e]
    exact dkR_plain h k (by omega)
theorem recL_plain {m : List E} (h : ∀ x ∈ m, x.st = 1) (ht : ∀ x ∈ m, 0 ≤ x.time ∧ x.time ≤ 4294967295) : (recL m).length = m.length ∧ recE m = 0 ∧ ∀ i, i < m.length → (recL m).getD i 0 = (m.getD i E0).time := by
  have ho := okR_plain h
  refine ⟨by simp [recL, ho, outR], by simp [recE, ho], fun i hi => ?_⟩
  have hb := ht _ (getD_of hi)
  have e1 : (recL m).getD i 0 = ovR m i := by
    simp only [recL, ho, if_true, outR]
    rw [List.getD_eq_getElem?_getD, List.getElem?_map, List.getElem?_range hi]
    simp only [Option.map_some, Option.getD_some]
    rw [if_pos (by omega)]
  rw [e1]
  simp only [ovR, dkR_plain h _ (show m.length - 1 - i ≤ m.length by omega), tms, W]
  rw [wr_in (m.getD i E0).time (by omega) (by omega), wr_in _ (by omega) (by omega)]; omega
theorem bad_one {a b : List E} {o : E} (ha : ∀ x ∈ a, x.st = 1) (hb : ∀ x ∈ b, x.st = 1) (ho : isx o 0 = true ∨ isx o 128 = true) : okR (a ++ [o] ++ b) = false := by
  have hl : (a ++ [o] ++ b).length = a.length + 1 + b.length := by simp; omega
  have e0 : (a ++ [o] ++ b).getD a.length E0 = o := by simp [List.getD_eq_getElem?_getD]
  have key : badR (a ++ [o] ++ b) a.length = true := by
    unfold badR
    rw [e0]
    rcases ho with ho | ho
    · rw [ho]
      by_cases h : b = []
      · subst h; simp
      · have hb0 : 0 < b.length := List.length_pos_iff.2 h
        have e1 : (a ++ [o] ++ b).getD (a.length + 1) E0 = b.getD 0 E0 := by
          rw [List.getD_eq_getElem?_getD, List.getD_eq_getElem?_getD, List.getElem?_append_right (by simp)]
          simp
        rw [e1, isx_st (hb _ (getD_of hb0))]
        simp
    · rw [ho]
      by_cases h : a = []
      · subst h; simp
      · have ha0 : 0 < a.length := List.length_pos_iff.2 h
        have e1 : (a ++ [o] ++ b).getD (a.length - 1) E0 = a.getD (a.length - 1) E0 := by
          rw [List.getD_eq_getElem?_getD, List.getD_eq_getElem?_getD, List.append_assoc, List.getElem?_append_left (by omega)]
        rw [e1, isx_st (ha _ (getD_of (by omega)))]
        simp
  rw [Bool.eq_false_iff]
  intro h
  simp only [okR, List.all_eq_true, List.mem_range, Bool.not_eq_true'] at h
  have := h a.length (by omega)
  rw [key] at this; cases this
theorem rec_bad {l : List E} (h : okR l = false) : recL l = [] ∧ recE l = 6 := by simp [recL, recE, h]
theorem adj77 : adjL ⟨0, 0, false⟩ 77 = [chg 0 0, chg 77 128] ∧ adjE ⟨0, 0, false⟩ 77 = 0 := by decide +kernel
theorem mid_st {m : List E} (h : ∀ x ∈ m, x.st = 1) (n : Nat) : (∀ x ∈ m.take n, x.st = 1) ∧ (∀ x ∈ m.drop n, x.st = 1) := ⟨fun x hx => h x (List.mem_of_mem_take hx), fun x hx => h x (List.mem_of_mem_drop hx)⟩
set_option maxHeartbeats 4000000 in
theorem walk8 {Phi : Nat → Option Ctr} (P16 : Phi 16 = some CW) (P17 : Phi 17 = some CJ) (P20 : Phi 20 = some CDl) (P21 : Phi 21 = some CRl) (P22 : Phi 22 = some CDx) (P23 : Phi 23 = some CDe) (P25 : Phi 25 = some CRx) (P27 : Phi 27 = some CM) (L : List Int) (w : Int) (b : Bool) : evC Phi (IP L) rc8 ⟨initS [.lst [.int .i64 0] (i64s L), .int .i64 w, .bool b], initM false []⟩ (kRet rv8 (.bool true) false []) := by
  simp (config := {maxSteps := 2000000}) only [rc8, initM_f, rv8, evC_seq, evC_region, eo_mov, evG_no, Option.getD_some, ev_mov, av_c, gv_bool, bind1_some', un1_mov, goOp_some, put_q, evOps_nil, kEnd_at, hasG_no, hasG_nil, kEndB_f, kSeq_n, av_t, upd_at, Nat.reduceEqDiff, initS_at, List.getD_cons_zero, if_false, gv_lst, eo_call, P20, CDl, evCl_mk, ev_call, avs_cons, List.getD_cons_succ, if_true, avs_nil, consO_some, clO_some, call_pure, lends_cons, lend1_lst, lends_nil, consL_some', List.nil_append, callN_some, decI_i64s, and_self, callP_some, c2_bool, flat2_bool, backOK_nil, Bool.and_self, clQ_t, eo_not, ev_not, un1_not, evC_cond, P16, CW, evC_ret, kSeq_r, kRet_r, retOK_eq, retL_cons, retV_t, retL_nil, lkR_one, lk1_bool, lkT_f, applyL_nil, retOK_f, rtO_some, resV_one, leV1_bool, knowL_nil, askL_nil, askL_cons, evC_skip, P21, CRl, evCl_ext, evXV_some, evX_f, evXA_some, evXN_some, evXP_eq, wfX2_fp, List.all_cons, c0_lst, c0_int, List.all_nil, frs2_fp, idsOK_eq, List.map_cons, List.map_nil, nodupN_cons, List.contains_nil, Bool.not_false, nodupN_nil, Nat.reduceLT, decide_true, flatX2_fp, flat0_lst, flat0_int, Bool.and_true, flatL_cells, flatL_nil, backX_nil, putX_eq, unfr2_fp, Nat.reduceMul, Nat.reduceAdd, Nat.add_zero, addF_cons, addF_nil, putY_eq, killS_at, gv_ptr, gv_nil, P22, CDx, gv_int, call_state, updM_at, killM_at, killO_none, callC_cells, lend1_int, callB_some, Int.reduceLE, true_and, callD_t, callS_some, c2_int, flat2_int, Bool.true_and, clU_t, put_u, liveB_cells, evC_block, evC_loop, IPa, LPS, SP, SL_ge, lkL_cons, kill3_int, lkS_int, kill3_bool, lkS_bool, lkS_ptr, lkS_nil_vw, lookM_cons, lookM_nil, nlK_buf, lkL_nil, List.cons_append, lkM_cons, lkB_cells, lkC_cons, lkC0_lst, Nat.zero_add, lkC0_int, lkC_nil, lkB_buf, lkM_nil, applyL_nls, nlV_nil, Nat.reduceLeDiff, List.length_cons, List.length_nil, nlP_t, SL_ge0, leL_cons, leV1_int, kill3_ptr, leV1_ptr, kill3_nil, leV1_vw, leL_nil, and_true, leM_cons, killO_some, killB_cells, kill0_lst, kill0_int, leB_cells, leAs_cons, leA_lst, leA_int, leAs_nil, leB_buf, leM_nil, LPR, SL_st, lookL_cons, lookL_nil, eo_cmp, ev_cmp, cmp2_some, cmp_geq, toR_some', P23, CDe, E.av, eo_alloc, ev_alloc, eo_store, evX_t, evXC_cells, evXB_some, evXM_some, evXS_eq, wfX2_agg, wfX0_int, wfX0_bool, frs2_agg, frsL_cons, frs0_int, frs0_bool, frsL_nil, flatX2_agg, flatX0_int, flatX0_bool, setB_eq, unfr2_agg, unfr0_int, unfr0_bool, put_n, kill0_bool, ar_t, kill3_agg, kill3_junk, vwsT_ptr, frzL_nil, goF_eq, Option.getD_none, ev_store, gv_agg, bind2_some', store_ptr, cells_agg, stB_cells, stC_true, setC_cons, List.set_cons_zero, List.set_cons_succ, setC_nil, put_s, eo_faddr, ev_faddr, faddr_ptr, ar_c, cells_int, kill3_vw, gv_vw, eo_load, ev_load, load_ptr, ldB_cells, valOf_agg, valB_true, List.drop_zero, List.take_succ_cons, List.take_zero, ldV_some, eo_bsliceO, vwsG_cons, vws1_agg, vwsL_cons, vws0_int, vws0_bool, vwsL_nil, vwsG_nil, ev_bsliceO, List.replicate_succ, List.replicate_zero, fillS_cons, fsK_some, fsC_some, c0_bool, fillS_nil, blO2_some, killB_buf, eo_append, ev_append, appR_vw, ysOf_vw, ysV_buf, appV_buf, appK_some, evs_len, evs_st, kBlk_n, eo_arith, ev_arith, arith_sub, kLoop_n, lkS_vw_vw, beq_self_eq_true, renK_t, evC_exit, kSeq_e, kLoop_e, kBlk_e, kBlkB_t, P25, CRx, lend1_vw, lendB_buf, decE_evs, wfX2_tup, wfX1_lst, wfX1_int, frs2_tup, frsV_cons, frs1_lst, frs1_int, frsV_nil, flatX2_tup, flatX1_lst, flatX1_int, backX_f, frzL_cons, frzQ_buf, frzP_t, unfr2_tup, unfr1_lst, unfr1_int, frzSl_at, frz3_junk, gv_tup, eo_extract, ev_extract, un1_extract, List.getElem?_cons_zero, List.getElem?_cons_succ, cmp_neq, evG_yes, pathG_bool, gG_some, guardR_q, guardL_nil, eo_len, ev_len, gv_gd, List.contains_cons, Bool.or_false, gvB_true, len_lst, i64s_len, frz3_vw, eo_pick, ev_pick, pick3_some, pickV_bool, Bool.cond_true_left, hasG_yes, kEndB_t, ungdS_at, ungd_junk, IPb, LPbS, SPb, frz3_int, ungd_int, frz3_bool, ungd_bool, ungd_lst, lkS_lst, leV1_lst, LPbR, cmp_lss, evC_draw, preK_some, needD_mov, preB_f, needD_iaddrS, needD_load, needD_faddr, needD_conv, needD_cmp, preK_nil, evD_cons, evDk_some, newOK_none, ev_iaddrS, iaddrS_lst, iasB_true, Int.toNat_natCast, gv_ep, load_ep, getE_i64, valOf_one, faddr_ep, getE_ev, E.cs, ev_conv, un1_conv, evD_nil, kBlk_r, kLoop_r, arith_add, condK_bool, knowD_cons, knowD_nil, knowL_cons, pairD_cons, pairOK_eq, newMen_none, Nat.reduceBEq, Bool.or_true, pairB_t, pairD_nil, pairB_f, chkR_eq, pslots_int, optN_some, disjN_nil, newI_none, pslots_ep, pslots_lst, eo_build, ev_build, fillA_nil, blO_some, P17, CJ, Ck.av, lend1_agg, lendC_cons, lendA_int, lendA_bool, lendC_nil, aggL_some, adj77.1, adj77.2, c2_tup, c1_agg, c1_lst, c1_int, flat2_tup, flat1_agg, flat0_bool, flat1_lst, flat1_int, kill3_lst, Bool.not_true, eo_iaddrS, Int.reduceToNat, P27, CM, needD_slice, needD_appD, preB_t, needD_bslice, ev_slice, boundA_none, boundA_some, optS_some, sliceO_some, slice_lst, loOf_none, hiOf_int, slL_some, evs_take, ev_appD, appDR_nil, appR_nil, ysOf_lst, newOK_some, deadL_nil, liveB_buf, ev_bslice, blS_some, appDR_vw, appDV_buf, appDK_some, evs_app, deadL_dead, put_nd, loOf_int, hiOf_none, evs_drop, evs_join, cmp_eql, Bool.cond_false_right, eo_call_g, guardL_cons, pathP_cons, boolOf_bool, pathP_nil, implies_true, true_imp_iff, newMen_some, noMen_eq, noB_none, killB_dead, noB_some, pslots_vw, newI_some, disjN_cons, pslots_agg]
  intro _ _
  have hv := dx_bd (L := L) (a := 0) (m := 12) (by omega) (by omega)
  refine ⟨by decide, ⟨dxA L 0, dxV L 0 12, [], w, b, dxA_nn (by omega), ⟨by omega, by simp; omega⟩, by simp⟩, ⟨⟨rfl, rfl, rfl⟩, rfl, rfl⟩, ?_⟩
  rintro ⟨at', k, m, w, b, ha, hk, hm⟩
  dsimp only
  refine ⟨fun hc => ?_, fun hc => ?_⟩
  · have hc := of_decide_eq_true hc
    refine ⟨ha, ?_⟩
    rintro ⟨x, q⟩ ⟨hx, hq⟩
    dsimp only at hx hq ⊢
    have ek : IntKind.i64.wrap (k - 1) = k - 1 := wr_in _ (by omega) (by omega)
    rw [ek]
    refine ⟨by omega, by omega, ⟨q, k - 1, m ++ [{ x with st := 1 }], w, b, hq, ⟨by omega, by simp; omega⟩, ?_⟩, ⟨⟨rfl, rfl, rfl⟩, rfl, rfl⟩, by dsimp only; omega⟩
    intro y hy
    rcases List.mem_append.1 hy with hy | hy
    · exact hm y hy
    · simp only [List.mem_singleton] at hy
      subst hy; exact ⟨rfl, hx⟩
  · have hc := of_decide_eq_false hc
    have hs : ∀ x ∈ m, x.st = 1 := fun x hx => (hm x hx).1
    obtain ⟨r1, r2, r3⟩ := recL_plain hs (fun x hx => (hm x hx).2)
    refine ⟨by omega, fun _ => ⟨fun hbad => ?_, fun _ => ⟨⟨0, m, w, b, by omega, hm, by omega⟩, ⟨rfl, rfl, rfl, rfl, rfl⟩, ?_⟩⟩⟩
    · exfalso
      rw [r1, r2] at hbad; simp at hbad
    rintro ⟨i, m, w, b, hi, hm, hl⟩
    dsimp only
    have hs : ∀ x ∈ m, x.st = 1 := fun x hx => (hm x hx).1
    have ht : ∀ x ∈ m, 0 ≤ x.time ∧ x.time ≤ 4294967295 := fun x hx => (hm x hx).2
    obtain ⟨r1, r2, r3⟩ := recL_plain hs ht
    intro _
    refine ⟨fun hc => ?_, fun hc => ?_⟩
    · have hc := of_decide_eq_true hc
      rw [r1] at hc ⊢
      have hb := ht _ (getD_of (show i < m.length by omega))
      refine ⟨⟨by omega, by omega⟩, ⟨by omega, by omega⟩, fun _ _ => ⟨fun h => ?_, fun _ => ⟨⟨i + 1, m, w, b, by omega, hm, hl⟩, ⟨rfl, rfl, rfl, rfl, AV.int_inj' (by rw [wr_in _ (by omega) (by omega)]; dsimp only; omega)⟩, by dsimp only; omega⟩⟩⟩
      exfalso
      rw [r3 i (by omega), wr_in _ (by omega) (by omega)] at h; simp at h
    · have e1 : IntKind.i64.wrap ((m.length : Int) + 1) = m.length + 1 := wr_in _ (by omega) (by omega)
      have hmod := modI_bd (n := w) (m := (m.length : Int) + 1) (by omega) (by omega)
      refine ⟨fun h => ?_, fun _ => ⟨by omega, fun hb => ?_, fun hb => ?_⟩⟩
      · simp at h
      · rw [e1]
        generalize modI w ((m.length : Int) + 1) = k at hmod ⊢
        have hk : 0 ≤ k ∧ k ≤ m.length := by omega
        have e2 : List.take (m.length - k.toNat) (List.drop k.toNat m) = m.drop k.toNat := List.take_of_length_le (by simp)
        obtain ⟨t1, t2⟩ := mid_st hs k.toNat
        obtain ⟨q1, q2⟩ := rec_bad (bad_one (o := chg 77 128) t1 t2 (.inr (by decide)))
        simp only [Nat.sub_zero, e2, q1, q2, List.length_append, List.length_take, List.length_drop, List.length_cons, List.length_nil]
        refine ⟨by omega, fun _ => ⟨by omega, ⟨by omega, by omega⟩, by omega, by omega, by omega, by omega, ⟨by omega, by omega, by omega⟩, by omega, by omega, by omega, fun _ => rfl⟩⟩
      · rw [e1]
        generalize modI w ((m.length : Int) + 1) = k at hmod ⊢
        have hk : 0 ≤ k ∧ k ≤ m.length := by omega
        have e2 : List.take (m.length - k.toNat) (List.drop k.toNat m) = m.drop k.toNat := List.take_of_length_le (by simp)
        obtain ⟨t1, t2⟩ := mid_st hs k.toNat
        obtain ⟨q1, q2⟩ := rec_bad (bad_one (o := chg 0 0) t1 t2 (.inl (by decide)))
        simp only [Nat.sub_zero, e2, q1, q2, List.length_append, List.length_take, List.length_drop, List.length_cons, List.length_nil]
        exact fun _ => ⟨by omega, ⟨by omega, by omega⟩, by omega, by omega, by omega, by omega, ⟨by omega, by omega, by omega⟩, by omega, by omega, by omega, fun _ => rfl⟩
end Go.Proofs.Ytmcaedjlglpdeaa
