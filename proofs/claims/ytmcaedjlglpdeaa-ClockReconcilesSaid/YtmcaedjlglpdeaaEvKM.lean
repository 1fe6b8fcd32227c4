/- A part of the proof: symbolic evaluation of the program's functions, proved sound against the model; no condition. -/
import Derived.Test.YtmcaedjlglpdeaaEvKL
namespace Go.Proofs.Ytmcaedjlglpdeaa
open Go Go.RowKit Go.Ev
set_option linter.unusedSimpArgs false
set_option linter.unusedVariables false
set_option maxRecDepth 20000
def tms (l : List E) (i : Nat) : Int := (l.getD i E0).time
def badR (l : List E) (i : Nat) : Bool :=
  (isx (l.getD i E0) 0 && (decide (i + 1 = l.length) || !isx (l.getD (i + 1) E0) 128)) || (isx (l.getD i E0) 128 && (decide (i = 0) || !isx (l.getD (i - 1) E0) 0))
def okR (l : List E) : Bool := (List.range l.length).all fun i => !badR l i
/-- What the changes behind an event add, the last k events taken. -/
def dkR (l : List E) : Nat → Int
  | 0 => 0
  | k + 1 => if isx (l.getD (l.length - 1 - k) E0) 128 then W (dkR l k + W (W (tms l (l.length - 1 - k)) - W (tms l (l.length - 1 - k - 1)))) else dkR l k
def ovR (l : List E) (i : Nat) : Int := W (W (tms l i) + dkR l (l.length - 1 - i))
def outR (l : List E) (k : Nat) : List Int := (List.range l.length).map fun i => if l.length ≤ i + k then ovR l i else 0
def recL (l : List E) : List Int := if okR l then outR l l.length else []
def recE (l : List E) : Int := if okR l then 0 else 6
def decE (es : List (List AV)) : List E := es.map fun r => match r with
  | [.int _ i, .int _ t, .int _ g, .int _ s, .int _ n, .int _ y, .bool e, .int _ a, .int _ b, .int _ c] => ⟨i, t, g, s, n, y, e, a, b, c⟩
  | _ => E0
theorem decE_evs (l : List E) : decE (evs l) = l := by
  simp only [decE, evs, List.map_map]
  exact (List.map_congr_left fun _ _ => rfl).trans (List.map_id l)
def CRc : Ctr := .mk false fun _ xs => match xs with
  | [.lst zz es] => some ((zz = [.int .u16 0, .int .u32 0, .int .u16 0, .int .u8 0, .int .u8 0, .int .u8 0, .bool false, .int .u8 0, .int .u8 0, .int .u8 0] ∧ es = evs (decE es)) ∧ es.length ≤ 100000, .tup [.lst [.int .i64 0] (i64s (recL (decE es))), .int .i64 (recE (decE es))], [])
  | _ => none
def CRx : Ctr := .ext false Unit fun _ xs => match xs with
  | [.lst zz es] => some ((zz = [.int .u16 0, .int .u32 0, .int .u16 0, .int .u8 0, .int .u8 0, .int .u8 0, .bool false, .int .u8 0, .int .u8 0, .int .u8 0] ∧ es = evs (decE es)) ∧ es.length ≤ 100000, fun _ => (True, .tup [.lst [.int .i64 0] (i64s (recL (decE es))), .int .i64 (recE (decE es))], []))
  | _ => none
structure KR (l : List E) where
  i : Nat
  hi : i ≤ l.length
  hb : ∀ j, j < i → badR l j = false
structure KRb (l : List E) where
  k : Nat
  hk : k ≤ l.length
  ho : okR l = true
def S25 (l : List E) (p : KR l) : SL := ⟨[(0, .lst [.int .u16 0, .int .u32 0, .int .u16 0, .int .u8 0, .int .u8 0, .int .u8 0, .bool false, .int .u8 0, .int .u8 0, .int .u8 0] (evs l)), (9, .lst [.int .u16 0, .int .u32 0, .int .u16 0, .int .u8 0, .int .u8 0, .int .u8 0, .bool false, .int .u8 0, .int .u8 0, .int .u8 0] (evs l)), (10, .int .i64 l.length), (11, .int .i64 p.i)], []⟩
def S25b (l : List E) (p : KRb l) : SL := ⟨[(0, .lst [.int .u16 0, .int .u32 0, .int .u16 0, .int .u8 0, .int .u8 0, .int .u8 0, .bool false, .int .u8 0, .int .u8 0, .int .u8 0] (evs l)), (6, .vw 3520 0 0 0), (7, .int .i64 (dkR l p.k)), (8, .int .i64 ((l.length : Int) - 1 - p.k))], [(3520, .buf 2 [.int .i64 0] (i64s (outR l p.k)))]⟩
def L25 (l : List E) : LI := ⟨KR l, S25 l, fun p => l.length - p.i, fun _ _ => True⟩
def L25b (l : List E) : LI := ⟨KRb l, S25b l, fun p => l.length - p.k, fun _ _ => True⟩
def I25 (l : List E) : Nat → LI := fun n => if n = 0 then L25 l else L25b l
theorem I25a (l : List E) : I25 l 0 = L25 l := rfl
theorem I25b (l : List E) : I25 l 1 = L25b l := rfl
theorem L25S (l : List E) : (L25 l).S = S25 l := rfl
theorem L25R (l : List E) (p q) : (L25 l).R p q = True := rfl
theorem L25bS (l : List E) : (L25b l).S = S25b l := rfl
theorem L25bR (l : List E) (p q) : (L25b l).R p q = True := rfl
def S26 (l : List E) (p : KR l) : SL := ⟨[(0, .lst [.int .u16 0, .int .u32 0, .int .u16 0, .int .u8 0, .int .u8 0, .int .u8 0, .bool false, .int .u8 0, .int .u8 0, .int .u8 0] (evs l)), (4, .int .i64 l.length), (5, .int .i64 p.i)], []⟩
def S26b (l : List E) (p : KRb l) : SL := ⟨[(0, .lst [.int .u16 0, .int .u32 0, .int .u16 0, .int .u8 0, .int .u8 0, .int .u8 0, .bool false, .int .u8 0, .int .u8 0, .int .u8 0] (evs l)), (7, .vw 3712 0 0 0), (8, .int .i64 (dkR l p.k)), (9, .int .i64 ((l.length : Int) - 1 - p.k))], [(3712, .buf 2 [.int .i64 0] (i64s (outR l p.k)))]⟩
def L26 (l : List E) : LI := ⟨KR l, S26 l, fun p => l.length - p.i, fun _ _ => True⟩
def L26b (l : List E) : LI := ⟨KRb l, S26b l, fun p => l.length - p.k, fun _ _ => True⟩
def I26 (l : List E) : Nat → LI := fun n => if n = 0 then L26 l else L26b l
theorem I26a (l : List E) : I26 l 0 = L26 l := rfl
theorem I26b (l : List E) : I26 l 1 = L26b l := rfl
theorem L26S (l : List E) : (L26 l).S = S26 l := rfl
theorem L26R (l : List E) (p q) : (L26 l).R p q = True := rfl
theorem L26bS (l : List E) : (L26b l).S = S26b l := rfl
theorem L26bR (l : List E) (p q) : (L26b l).R p q = True := rfl
theorem i64s_rep (n : Nat) : List.replicate n [AV.int .i64 0] = i64s (List.replicate n 0) := by simp [i64s]
theorem i64s_set (l : List Int) (i : Nat) (x : Int) : (i64s l).set i [.int .i64 x] = i64s (l.set i x) := by simp [i64s, List.map_set]
theorem isx_ex {x : E} : isx x 0 = true → isx x 128 = false := by
  intro h
  simp only [isx, Bool.and_eq_true, decide_eq_true_eq] at h
  have : decide (x.d1 = 128) = false := by rw [decide_eq_false_iff_not]; omega
  simp [isx, this]
theorem mark1 (x : E) : decide (mark x = 1) = isx x 0 := by
  rw [Bool.eq_iff_iff, decide_eq_true_eq]; unfold mark
  split
  · simp [*]
  · split <;> simp_all
theorem mark2 (x : E) : decide (mark x = 2) = isx x 128 := by
  rw [Bool.eq_iff_iff, decide_eq_true_eq]; unfold mark
  split
  · rename_i h; rw [isx_ex h]; simp
  · split <;> simp_all
theorem outR_len (l : List E) (k : Nat) : (outR l k).length = l.length := by simp [outR]
theorem outR_0 (l : List E) : outR l 0 = List.replicate l.length 0 := by
  apply List.ext_getElem
  · simp [outR]
  · intro i h1 h2
    simp only [outR, List.length_map, List.length_range] at h1
    simp only [outR, List.getElem_map, List.getElem_range, List.getElem_replicate]
    rw [if_neg (by omega)]
theorem outR_set (l : List E) {k : Nat} (h : k < l.length) : (outR l k).set (l.length - 1 - k) (W (W (tms l (l.length - 1 - k)) + dkR l k)) = outR l (k + 1) := by
  apply List.ext_getElem
  · simp [outR]
  · intro i h1 h2
    have hi : i < l.length := by rw [outR_len] at h2; exact h2
    rw [List.getElem_set]
    split
    · rename_i e
      subst e
      simp only [outR, List.getElem_map, List.getElem_range]
      rw [if_pos (by omega), ovR, show l.length - 1 - (l.length - 1 - k) = k by omega]
    · simp only [outR, List.getElem_map, List.getElem_range]
      by_cases h3 : l.length ≤ i + k
      · rw [if_pos h3, if_pos (by omega)]
      · rw [if_neg h3, if_neg (by omega)]
theorem okR_iff (l : List E) : okR l = true ↔ ∀ j, j < l.length → badR l j = false := by
  simp only [okR, List.all_eq_true, List.mem_range, Bool.not_eq_true']
theorem okR_128 {l : List E} (h : okR l = true) {i : Nat} (hi : i < l.length) (hx : isx (l.getD i E0) 128 = true) : i ≠ 0 := by
  intro h0
  have := (okR_iff l).mp h i hi
  subst h0
  simp only [badR, hx] at this
  simp at this
set_option maxHeartbeats 4000000 in
theorem walk25 {Phi : Nat → Option Ctr} (P33 : Phi 33 = some CIs) (l : List E) (hl : l.length ≤ 100000) : evC Phi (I25 l) rc25 ⟨initS [.lst [.int .u16 0, .int .u32 0, .int .u16 0, .int .u8 0, .int .u8 0, .int .u8 0, .bool false, .int .u8 0, .int .u8 0, .int .u8 0] (evs l)], initM false []⟩ (kRet rv25 (.tup [.lst [.int .i64 0] (i64s (recL l)), .int .i64 (recE l)]) false []) := by
  simp (config := {maxSteps := 2000000}) only [rc25, initM_f, rv25, evC_seq, evC_region, eo_mov, evG_no, Option.getD_some, ev_mov, av_c, gv_nil, bind1_some', un1_mov, goOp_some, put_q, gv_int, evOps_nil, kEnd_at, hasG_no, hasG_nil, kEndB_f, kSeq_n, av_t, upd_at, Nat.reduceEqDiff, initS_at, List.getD_cons_zero, if_false, gv_lst, eo_len, ev_len, List.getD_cons_succ, if_true, len_lst, evs_len, evC_block, evC_loop, I25a, L25S, S25, SL_ge, lkL_cons, lkS_lst, lkS_int, lkL_nil, List.nil_append, lkM_nil, applyL_nil, SL_ge0, leL_cons, leV1_lst, leV1_int, leL_nil, and_true, true_and, leM_nil, L25R, SL_st, eo_cmp, ev_cmp, lookL_cons, lookL_nil, cmp2_some, cmp_lss, toR_some', evC_cond, evC_skip, eo_iaddrS, ev_iaddrS, bind2_some', iaddrS_lst, List.length_cons, List.length_nil, Nat.zero_add, Nat.reduceAdd, beq_self_eq_true, iasB_true, Int.toNat_natCast, eo_load, ev_load, gv_ep, load_ep, getE_ev, E.cs, valOf_agg, Nat.reduceLeDiff, decide_true, valB_true, List.drop_zero, List.take_succ_cons, List.take_zero, ldV_some, eo_alloc, ev_alloc, Nat.reduceMul, put_n, killB_cells, List.map_cons, kill0_int, kill0_bool, List.map_nil, killS_at, kill3_int, eo_store, ar_t, kill3_agg, kill3_junk, vwsT_ptr, frzL_nil, goF_eq, Option.getD_none, ev_store, gv_ptr, gv_agg, store_ptr, cells_agg, updM_at, killM_at, lookM_nil, killO_none, stB_cells, stC_true, setC_cons, List.set_cons_zero, List.set_cons_succ, setC_nil, put_s, liveB_cells, load_ptr, ldB_cells, eo_call, P33, CIs, evCl_mk, ev_call, avs_cons, avs_nil, consO_some, clO_some, call_pure, lends_cons, lend1_agg, lendC_cons, lendA_int, lendA_bool, lendC_nil, consL_some', aggL_some, lend1_int, lends_nil, callN_some, E.eta, callP_some, c2_bool, flat2_bool, backOK_nil, Bool.and_self, clQ_t, gv_bool, evG_yes, pathG_bool, gG_some, guardR_q, guardL_nil, eo_arith, ev_arith, gv_gd, List.contains_cons, List.contains_nil, Bool.or_false, List.all_cons, List.all_nil, gvB_true, arith_add, kill3_lst, cmp_eql, pathG_gd, List.cons_append, Bool.true_or, Bool.or_true, guardL_cons, pathP_cons, boolOf_bool, boolOf_gd, pathP_nil, eo_call_g, implies_true, eo_not, ev_not, un1_not, eo_pick, ev_pick, pick3_some, pickV_bool, Bool.cond_true_left, Bool.cond_false_right, arith_sub, hasG_yes, kEndB_t, evC_ret, kBlk_r, kSeq_r, kLoop_r, kRet_r, retOK_eq, retL_cons, retV_t, ungdS_at, ungd_junk, retL_nil, lkR_two, lkVs_cons, lk1_nil, lk1_int, lkVs_nil, lkT_f, retOK_f, rtO_some, resV_two, leVs_cons, leV1_nil, leA_nil, leVs_nil, knowL_nil, askL_nil, kBlk_n, ungd_int, kLoop_n, ungd_lst, ungd_bool, condK_bool, askL_cons, knowL_cons, evC_exit, kSeq_e, kLoop_e, kBlk_e, kBlkB_t, eo_mkslice, ev_mkslice, mk_int, i64s_rep, killB_buf, gv_vw, I25b, L25bS, S25b, lkS_vw_vw, renK_t, lkM_cons, lkB_buf, leV1_vw, leM_cons, leB_buf, L25bR, cmp_geq, eo_faddr, ev_faddr, faddr_ep, valOf_one, List.getElem?_cons_succ, List.getElem?_cons_zero, eo_conv, ev_conv, un1_conv, iaddrS_vw, lookM_cons, iasV_buf, iasW_t, i64s_len, vwsT_bp, vws1_int, gv_bp, store_bp, cells_int, stP_buf, c0_int, stQ_t, getE_i64, i64s_set, liveB_buf, evC_draw, preK_some, needD_mov, preB_f, needD_iaddrS, needD_faddr, needD_load, needD_conv, needD_arith, preK_nil, evD_cons, evDk_some, newOK_none, evD_nil, knowD_cons, knowD_nil, pairD_cons, pairOK_eq, newMen_none, Nat.reduceBEq, pairB_t, and_self, pairD_nil, pairB_f, chkR_eq, pslots_int, optN_some, disjN_nil, newI_none, pslots_ep, pslots_lst, lk1_vw_lst, applyL_frz, frzQ_buf, frzP_t, frzSl_at, frz3_vw, frz3_int, true_imp_iff]
  intro _
  refine ⟨⟨0, by omega, by intro j hj; omega⟩, rfl, ?_⟩
  rintro ⟨i, hi, hb⟩
  dsimp only
  refine ⟨fun hc => ?_, fun hc _ => ?_⟩
  · have hc := of_decide_eq_true hc
    have hc2 : i < l.length := by omega
    have e1 : IntKind.i64.wrap ((i : Int) + 1) = ((i + 1 : Nat) : Int) := by rw [wr_in _ (by omega) (by omega)]; omega
    have e2 : IntKind.i64.wrap ((i : Int) - 1) = (i : Int) - 1 := wr_in _ (by omega) (by omega)
    have e3 : ((i : Int) - 1).toNat = i - 1 := by omega
    have e4 : decide (((i + 1 : Nat) : Int) = (l.length : Int)) = decide (i + 1 = l.length) := by rw [decide_eq_decide]; omega
    have e5 : decide ((i : Int) = 0) = decide (i = 0) := by rw [decide_eq_decide]; omega
    rw [e1, e2, e3, e4, e5, Int.toNat_natCast]
    refine ⟨⟨by omega, by omega⟩, fun _ => ⟨fun h => ?_, fun h => ?_, fun h => ?_, fun h => ?_⟩⟩
    · have h2 := of_decide_eq_false (Option.some.inj h.2)
      omega
    · have h2 := of_decide_eq_false (Option.some.inj h.2.2)
      omega
    · have h' : badR l i = true := h
      have e : okR l = false := by
        cases e : okR l with
        | false => rfl
        | true => rw [(okR_iff l).mp e i hc2] at h'; cases h'
      exact ⟨by simp [recL, e, i64s], by simp [recE, e]⟩
    · have h' : badR l i = false := h
      refine ⟨⟨i + 1, by omega, fun j hj => ?_⟩, rfl, by simp only [L25]; omega⟩
      by_cases hji : j = i
      · rw [hji]; exact h'
      · exact hb j (by omega)
  · have hc := of_decide_eq_false hc
    have ho : okR l = true := (okR_iff l).mpr fun j hj => hb j (by omega)
    refine ⟨⟨by omega, by omega, by omega, by omega⟩, fun _ => ?_⟩
    refine ⟨⟨0, by omega, ho⟩, ⟨⟨rfl, AV.int_inj' (by dsimp only; rw [wr_in _ (by omega) (by omega)]; omega)⟩, by rw [outR_0]⟩, ?_⟩
    rintro ⟨k, hk, ho⟩
    dsimp only
    rw [outR_len]
    refine ⟨fun hc => ?_, fun hc => ?_⟩
    · have hc := of_decide_eq_true hc
      have hk2 : k < l.length := by omega
      have e3 : ((l.length : Int) - 1 - k).toNat = l.length - 1 - k := by omega
      have e4 : IntKind.i64.wrap ((l.length : Int) - 1 - k - 1) = (l.length : Int) - 1 - k - 1 := wr_in _ (by omega) (by omega)
      have e5 : ((l.length : Int) - 1 - k - 1).toNat = l.length - 1 - k - 1 := by omega
      have e6 : (l.length : Int) - 1 - k - 1 = (l.length : Int) - 1 - ((k + 1 : Nat) : Int) := by omega
      rw [e4, e3, e5]
      refine ⟨⟨by omega, by omega⟩, fun _ => ⟨⟨by omega, by omega⟩, fun _ => ⟨by omega, ⟨by omega, by omega⟩, fun _ => ⟨fun hx => ?_, fun hx => ?_⟩⟩⟩⟩
      · have h0 := okR_128 ho (by omega) hx
        refine ⟨⟨by omega, by omega⟩, ⟨by omega, by omega⟩, fun _ _ => ⟨⟨k + 1, by omega, ho⟩, ⟨⟨AV.int_inj' ?_, AV.int_inj' e6⟩, congrArg i64s (outR_set l hk2)⟩, by simp only [L25b]; omega⟩⟩
        simp only [dkR, hx, if_true]; rfl
      · refine ⟨⟨k + 1, by omega, ho⟩, ⟨⟨AV.int_inj' ?_, AV.int_inj' e6⟩, congrArg i64s (outR_set l hk2)⟩, by simp only [L25b]; omega⟩
        simp only [dkR, hx]; rfl
    · have hc := of_decide_eq_false hc
      have hkl : k = l.length := by omega
      subst hkl
      exact ⟨by simp only [recL, ho, if_true], by simp only [recE, ho, if_true]⟩
set_option maxHeartbeats 4000000 in
theorem walk26 {Phi : Nat → Option Ctr} (P34 : Phi 34 = some CMk) (l : List E) (hl : l.length ≤ 100000) : evC Phi (I26 l) rc26 ⟨initS [.lst [.int .u16 0, .int .u32 0, .int .u16 0, .int .u8 0, .int .u8 0, .int .u8 0, .bool false, .int .u8 0, .int .u8 0, .int .u8 0] (evs l)], initM false []⟩ (kRet rv26 (.tup [.lst [.int .i64 0] (i64s (recL l)), .int .i64 (recE l)]) false []) := by
  simp (config := {maxSteps := 2000000}) only [rc26, initM_f, rv26, evC_seq, evC_region, eo_mov, evG_no, Option.getD_some, ev_mov, av_c, gv_nil, bind1_some', un1_mov, goOp_some, put_q, gv_int, evOps_nil, kEnd_at, hasG_no, hasG_nil, kEndB_f, kSeq_n, av_t, upd_at, Nat.reduceEqDiff, initS_at, List.getD_cons_zero, if_false, gv_lst, eo_len, ev_len, List.getD_cons_succ, if_true, len_lst, evs_len, evC_block, evC_loop, I26a, L26S, S26, SL_ge, lkL_cons, lkS_lst, lkS_int, lkL_nil, List.nil_append, lkM_nil, applyL_nil, SL_ge0, leL_cons, leV1_lst, leV1_int, leL_nil, and_true, true_and, leM_nil, L26R, SL_st, lookL_cons, lookL_nil, eo_cmp, ev_cmp, cmp2_some, cmp_lss, toR_some', evC_cond, evC_skip, eo_iaddrS, ev_iaddrS, bind2_some', iaddrS_lst, List.length_cons, List.length_nil, Nat.zero_add, Nat.reduceAdd, beq_self_eq_true, iasB_true, Int.toNat_natCast, eo_load, ev_load, gv_ep, load_ep, getE_ev, E.cs, valOf_agg, Nat.reduceLeDiff, decide_true, valB_true, List.drop_zero, List.take_succ_cons, List.take_zero, ldV_some, eo_call, P34, CMk, evCl_mk, ev_call, avs_cons, gv_agg, avs_nil, consO_some, clO_some, call_pure, lends_cons, lend1_agg, lendC_cons, lendA_int, lendA_bool, lendC_nil, consL_some', aggL_some, lends_nil, callN_some, E.eta, callP_some, c2_int, flat2_int, backOK_nil, Bool.and_self, clQ_t, cmp_eql, mark1, gv_bool, evG_yes, pathG_bool, gG_some, guardR_q, guardL_nil, eo_arith, ev_arith, gv_gd, List.contains_cons, List.contains_nil, Bool.or_false, List.all_cons, List.all_nil, gvB_true, arith_add, pathG_gd, List.cons_append, Bool.true_or, Bool.or_true, guardL_cons, pathP_cons, boolOf_bool, boolOf_gd, pathP_nil, eo_call_g, implies_true, cmp_neq, mark2, eo_pick, ev_pick, pick3_some, pickV_bool, Bool.cond_true_left, Bool.cond_false_right, arith_sub, hasG_yes, kEndB_t, evC_ret, kBlk_r, kSeq_r, kLoop_r, kRet_r, retOK_eq, retL_cons, retV_t, ungdS_at, ungd_junk, retL_nil, lkR_two, lkVs_cons, lk1_nil, lk1_int, lkVs_nil, lkT_f, retOK_f, rtO_some, resV_two, leVs_cons, leV1_nil, leA_nil, leVs_nil, knowL_nil, askL_nil, kBlk_n, ungd_int, kLoop_n, ungd_lst, ar_t, ungd_bool, condK_bool, askL_cons, knowL_cons, evC_exit, kSeq_e, kLoop_e, kBlk_e, kBlkB_t, eo_mkslice, ev_mkslice, mk_int, Nat.reduceMul, i64s_rep, put_n, killB_buf, killS_at, kill3_junk, gv_vw, kill3_int, I26b, L26bS, S26b, kill3_lst, lkS_vw_vw, renK_t, lkM_cons, updM_at, killM_at, lookM_nil, killO_none, lkB_buf, leV1_vw, leM_cons, leB_buf, L26bR, cmp_geq, eo_faddr, ev_faddr, faddr_ep, valOf_one, List.getElem?_cons_succ, List.getElem?_cons_zero, eo_conv, ev_conv, un1_conv, iaddrS_vw, lookM_cons, iasV_buf, iasW_t, i64s_len, eo_store, vwsT_bp, vws1_int, frzL_nil, goF_eq, Option.getD_none, ev_store, gv_bp, store_bp, cells_int, stP_buf, c0_int, stQ_t, getE_i64, setC_cons, List.set_cons_zero, setC_nil, i64s_set, put_s, liveB_buf, evC_draw, preK_some, needD_mov, preB_f, needD_iaddrS, needD_faddr, needD_load, needD_conv, needD_arith, preK_nil, evD_cons, evDk_some, newOK_none, evD_nil, knowD_cons, knowD_nil, pairD_cons, pairOK_eq, newMen_none, Nat.reduceBEq, pairB_t, and_self, pairD_nil, pairB_f, chkR_eq, pslots_int, optN_some, disjN_nil, List.map_nil, newI_none, pslots_ep, pslots_lst, lk1_vw_lst, applyL_frz, frzQ_buf, frzP_t, frzSl_at, frz3_vw, frz3_int, true_imp_iff]
  intro _
  refine ⟨⟨0, by omega, by intro j hj; omega⟩, rfl, ?_⟩
  rintro ⟨i, hi, hb⟩
  dsimp only
  refine ⟨fun hc => ?_, fun hc => ?_⟩
  · have hc := of_decide_eq_true hc
    have hc2 : i < l.length := by omega
    have e1 : IntKind.i64.wrap ((i : Int) + 1) = ((i + 1 : Nat) : Int) := by rw [wr_in _ (by omega) (by omega)]; omega
    have e2 : IntKind.i64.wrap ((i : Int) - 1) = (i : Int) - 1 := wr_in _ (by omega) (by omega)
    have e3 : ((i : Int) - 1).toNat = i - 1 := by omega
    have e4 : decide (((i + 1 : Nat) : Int) = (l.length : Int)) = decide (i + 1 = l.length) := by rw [decide_eq_decide]; omega
    have e5 : decide ((i : Int) = 0) = decide (i = 0) := by rw [decide_eq_decide]; omega
    rw [e1, e2, e3, e4, e5, Int.toNat_natCast]
    refine ⟨⟨by omega, by omega⟩, fun _ => ⟨fun h => ?_, fun h => ?_, fun h => ?_, fun h => ?_⟩⟩
    · have h2 := of_decide_eq_false (Option.some.inj h.2)
      omega
    · have h2 := of_decide_eq_false (Option.some.inj h.2.2)
      omega
    · have h' : badR l i = true := h
      have e : okR l = false := by
        cases e : okR l with
        | false => rfl
        | true => rw [(okR_iff l).mp e i hc2] at h'; cases h'
      exact ⟨by simp [recL, e, i64s], by simp [recE, e]⟩
    · have h' : badR l i = false := h
      refine ⟨⟨i + 1, by omega, fun j hj => ?_⟩, rfl, by simp only [L26]; omega⟩
      by_cases hji : j = i
      · rw [hji]; exact h'
      · exact hb j (by omega)
  · have hc := of_decide_eq_false hc
    have ho : okR l = true := (okR_iff l).mpr fun j hj => hb j (by omega)
    refine ⟨⟨by omega, by omega, by omega, by omega⟩, ?_⟩
    refine ⟨⟨0, by omega, ho⟩, ⟨⟨rfl, AV.int_inj' (by dsimp only; rw [wr_in _ (by omega) (by omega)]; omega)⟩, by rw [outR_0]⟩, ?_⟩
    rintro ⟨k, hk, ho⟩
    dsimp only
    rw [outR_len]
    refine ⟨fun hc => ?_, fun hc => ?_⟩
    · have hc := of_decide_eq_true hc
      have hk2 : k < l.length := by omega
      have e3 : ((l.length : Int) - 1 - k).toNat = l.length - 1 - k := by omega
      have e4 : IntKind.i64.wrap ((l.length : Int) - 1 - k - 1) = (l.length : Int) - 1 - k - 1 := wr_in _ (by omega) (by omega)
      have e5 : ((l.length : Int) - 1 - k - 1).toNat = l.length - 1 - k - 1 := by omega
      have e6 : (l.length : Int) - 1 - k - 1 = (l.length : Int) - 1 - ((k + 1 : Nat) : Int) := by omega
      rw [e4, e3, e5]
      refine ⟨⟨by omega, by omega⟩, fun _ => ⟨⟨by omega, by omega⟩, fun _ => ⟨by omega, ⟨by omega, by omega⟩, fun _ => ⟨fun hx => ?_, fun hx => ?_⟩⟩⟩⟩
      · have h0 := okR_128 ho (by omega) hx
        refine ⟨⟨by omega, by omega⟩, ⟨by omega, by omega⟩, fun _ _ => ⟨⟨k + 1, by omega, ho⟩, ⟨⟨AV.int_inj' ?_, AV.int_inj' e6⟩, congrArg i64s (outR_set l hk2)⟩, by simp only [L26b]; omega⟩⟩
        simp only [dkR, hx, if_true]; rfl
      · refine ⟨⟨k + 1, by omega, ho⟩, ⟨⟨AV.int_inj' ?_, AV.int_inj' e6⟩, congrArg i64s (outR_set l hk2)⟩, by simp only [L26b]; omega⟩
        simp only [dkR, hx]; rfl
    · have hc := of_decide_eq_false hc
      have hkl : k = l.length := by omega
      subst hkl
      exact ⟨by simp only [recL, ho, if_true], by simp only [recE, ho, if_true]⟩
end Go.Proofs.Ytmcaedjlglpdeaa
