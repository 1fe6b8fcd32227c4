/- A part of the proof: symbolic evaluation of the program's functions, proved sound against the model; no condition. -/
import Derived.Test.YtmcaedjlglpdeaaEvKL
namespace Go.Proofs.Ytmcaedjlglpdeaa
open Go Go.RowKit Go.Ev
set_option linter.unusedSimpArgs false
set_option linter.unusedVariables false
set_option maxRecDepth 20000
def tms (l : List E) (i : Nat) : Int := (l.getD i E0).time
def badR (l : List E) (i : Nat) : Bool :=
  (isx (l.getD i E0) 0 && (decide (i + 1 = l.length) || !isx (l.getD (i + 1) E0) 128)) || (isx (l.getD i E0) 128 && (decide (i = 0) || !isx (l.getD (i - 1) E0) 0))
def okR (l : List E) : Bool := (List.range l.length).all fun i => !badR l i
/-- What the changes behind an event add, the last k events taken. -/
def dkR (l : List E) : Nat → Int
  | 0 => 0
  | k + 1 => if isx (l.getD (l.length - 1 - k) E0) 128 then W (dkR l k + W (W (tms l (l.length - 1 - k)) - W (tms l (l.length - 1 - k - 1)))) else dkR l k
def ovR (l : List E) (i : Nat) : Int := W (W (tms l i) + dkR l (l.length - 1 - i))
def outR (l : List E) (k : Nat) : List Int := (List.range l.length).map fun i => if l.length ≤ i + k then ovR l i else 0
def recL (l : List E) : List Int := if okR l then outR l l.length else []
def recE (l : List E) : Int := if okR l then 0 else 6
def decE (es : List (List AV)) : List E := es.map fun r => match r with
  | [.int _ i, .int _ t, .int _ g, .int _ s, .int _ n, .int _ y, .bool e, .int _ a, .int _ b, .int _ c] => ⟨i, t, g, s, n, y, e, a, b, c⟩
  | _ => E0
theorem decE_evs (l : List E) : decE (evs l) = l := by
  simp only [decE, evs, List.map_map]
  exact (List.map_congr_left fun _ _ => rfl).trans (List.map_id l)
def CRc : Ctr := .mk false fun _ xs => match xs with
  | [.lst zz es] => some ((zz = [.int .u16 0, .int .u32 0, .int .u16 0, .int .u8 0, .int .u8 0, .int .u8 0, .bool false, .int .u8 0, .int .u8 0, .int .u8 0] ∧ es = evs (decE es)) ∧ es.length ≤ 100000, .tup [.lst [.int .i64 0] (i64s (recL (decE es))), .int .i64 (recE (decE es))], [])
  | _ => none
def CRx : Ctr := .ext false Unit fun _ xs => match xs with
  | [.lst zz es] => some ((zz = [.int .u16 0, .int .u32 0, .int .u16 0, .int .u8 0, .int .u8 0, .int .u8 0, .bool false, .int .u8 0, .int .u8 0, .int .u8 0] ∧ es = evs (decE es)) ∧ es.length ≤ 100000, fun _ => (True, .tup [.lst [.int .i64 0] (i64s (recL (decE es))), .int .i64 (recE (decE es))], []))
  | _ => none
structure KR (l : List E) where
  i : Nat
  hi : i ≤ l.length
  hb : ∀ j, j < i → badR l j = false
structure KRb (l : List E) where
  k : Nat
  hk : k ≤ l.length
  ho : okR l = true
def S25 (l : List E) (p : KR l) : SL := ⟨[(0, .lst [.int .u16 0, .int .u32 0, .int .u16 0, .int .u8 0, .int .u8 0, .int .u8 0, .bool false, .int .u8 0, .int .u8 0, .int .u8 0] (evs l)), (9, .lst [.int .u16 0, .int .u32 0, .int .u16 0, .int .u8 0, .int .u8 0, .int .u8 0, .bool false, .int .u8 0, .int .u8 0, .int .u8 0] (evs l)), (10, .int .i64 l.length), (11, .int .i64 p.i)], []⟩
def S25b (l : List E) (p : KRb l) : SL := ⟨[(0, .lst [.int .u16 0, .int .u32 0, .int .u16 0, .int .u8 0, .int .u8 0, .int .u8 0, .bool false, .int .u8 0, .int .u8 0, .int .u8 0] (evs l)), (6, .vw 3520 0 0 0), (7, .int .i64 (dkR l p.k)), (8, .int .i64 ((l.length : Int) - 1 - p.k))], [(3520, .buf 2 [.int .i64 0] (i64s (outR l p.k)))]⟩
def L25 (l : List E) : LI := ⟨KR l, S25 l, fun p => l.length - p.i, fun _ _ => True⟩
def L25b (l : List E) : LI := ⟨KRb l, S25b l, fun p => l.length - p.k, fun _ _ => True⟩
def I25 (l : List E) : Nat → LI := fun n => if n = 0 then L25 l else L25b l
theorem I25a (l : List E) : I25 l 0 = L25 l := rfl
theorem I25b (l : List E) : I25 l 1 = L25b l := rfl
theorem L25S (l : List E) : (L25 l).S = S25 l := rfl
theorem L25R (l : List E) (p q) : (L25 l).R p q = True := rfl
theorem L25bS (l : List E) : (L25b l).S = S25b l := rfl
theorem L25bR (l : List E) (p q) : (L25b l).R p q = True := rfl
def S26 (l : List E) (p : KR l) : SL := ⟨[(0, .lst [.int .u16 0, .int .u32 0, .int .u16 0, .int .u8 0, .int .u8 0, .int .u8 0, .bool false, .int .u8 0, .int .u8 0, .int .u8 0] (evs l)), (4, .int .i64 l.length), (5, .int .i64 p.i)], []⟩
def S26b (l : List E) (p : KRb l) : SL := ⟨[(0, .lst [.int .u16 0, .int .u32 0, .int .u16 0, .int .u8 0, .int .u8 0, .int .u8 0, .bool false, .int .u8 0, .int .u8 0, .int .u8 0] (evs l)), (7, .vw 3712 0 0 0), (8, .int .i64 (dkR l p.k)), (9, .int .i64 ((l.length : Int) - 1 - p.k))], [(3712, .buf 2 [.int .i64 0] (i64s (outR l p.k)))]⟩
def L26 (l : List E) : LI := ⟨KR l, S26 l, fun p => l.length - p.i, fun _ _ => True⟩
def L26b (l : List E) : LI := ⟨KRb l, S26b l, fun p => l.length - p.k, fun _ _ => True⟩
def I26 (l : List E) : Nat → LI := fun n => if n = 0 then L26 l else L26b l
theorem I26a (l : List E) : I26 l 0 = L26 l := rfl
theorem I26b (l : List E) : I26 l 1 = L26b l := rfl
theorem L26S (l : List E) : (L26 l).S = S26 l := rfl
theorem L26R (l : List E) (p q) : (L26 l).R p q = True := rfl
theorem L26bS (l : List E) : (L26b l).S = S26b l := rfl
theorem L26bR (l : List E) (p q) : (L26b l).R p q = True := rfl
theorem i64s_rep (n : Nat) : List.replicate n [AV.int .i64 0] = i64s (List.replicate n 0) := by simp [i64s]
theorem i64s_set (l : List Int) (i : Nat) (x : Int) : (i64s l).set i [.int .i64 x] = i64s (l.set i x) := by simp [i64s, List.map_set]
theorem isx_ex {x : E} : isx x 0 = true → isx x 128 = false := by
  intro h
  simp only [isx, Bool.and_eq_true, decide_eq_true_eq] at h
  have : decide (x.d1 = 128) = false := by rw [decide_eq_false_iff_not]; omega
  simp [isx, this]
theorem mark1 (x : E) : decide (mark x = 1) = isx x 0 := by
  rw [Bool.eq_iff_iff, decide_eq_true_eq]; unfold mark
  split
  · simp [*]
  · split <;> simp_all
theorem mark2 (x : E) : decide (mark x = 2) = isx x 128 := by
  rw [Bool.eq_iff_iff, decide_eq_true_eq]; unfold mark
  split
  · rename_i h; rw [isx_ex h]; simp
  · split <;> simp_all
theorem outR_len (l : List E) (k : Nat) : (outR l k).length = l.length := by simp [outR]
theorem outR_0 (l : List E) : outR l 0 = List.replicate l.length 0 := by
  apply List.ext_getElem
  · simp [outR]
  · intro i h1 h2
    simp only [outR, List.length_map, List.length_range] at h1
    simp only [outR, List.getElem_map, List.getElem_range, List.getElem_replicate]
    rw [if_neg (by omega)]
theorem outR_set (l : List E) {k : Nat} (h : k < l.length) : (outR l k).set (l.length - 1 - k) (W (W (tms l (l.length - 1 - k)) + dkR l k)) = outR l (k + 1) := by
  apply List.ext_getElem
  · simp [outR]
  · intro i h1 h2
    have hi : i < l.length := by rw [outR_len] at h2; exact h2
    rw [List.getElem_set]
    split
    · rename_i e
      subst e
      simp only [outR, List.getElem_map, List.getElem_range]
      rw [if_pos (by omega), ovR, show l.length - 1 - (l.length - 1 - k) = k by omega]
    · simp only [outR, List.getElem_map, List.getElem_range]
      by_cases h3 : l.length ≤ i + k
      · rw [if_pos h3, if_pos (by omega)]
      · rw [if_neg h3, if_neg (by omega)]
theorem okR_iff (l : List E) : okR l = true ↔ ∀ j, j < l.length → badR l j = false := by
  simp only [okR, List.all_eq_true, List.mem_range, Bool.not_eq_true']
theorem okR_128 {l : List E} (h : okR l = true) {i : Nat} (hi : i < l.length) (hx : isx (l.getD i E0) 128 = true) : i ≠ 0 := by
  intro h0
  have := (okR_iff l).mp h i hi
  subst h0
  simp only [badR, hx] at this
  simp at this
set_option maxHeartbeats 4000000 in
theorem walk25 {Phi : Nat → Option Ctr} (P33 : Phi 33 = some CIs) (l : List E) (hl : l.length ≤ 100000) : evC Phi (I25 l) rc25 ⟨initS [.lst [.int .u16 0, .int .u32 0, .int .u16 0, .int .u8 0, .int .u8 0, .int .u8 0, .bool false, .int .u8 0, .int .u8 0, .int .u8 0] (evs l)], initM false []⟩ (kRet rv25 (.tup [.lst [.int .i64 0] (i64s (recL l)), .int .i64 (recE l)]) false []) := by
  simp (config := {maxSteps := 2000000}) only [rc25, rv25, P33, I25a, I25b, L25S, L25R, L25bS, L25bR, S25, S25b, gvB_true, beqO_some, killO_none, killO_some, consO_some, eqaB_t, eqaB_f, andO_some, mmO_some, iasB_true, iaA_some, ldV_some, ldB_cells, valB_true, stC_true, stB_cells, bxO_some, blO_some, blS_some, faK_some, faC_some, fsK_some, fsC_some, clO_some, condK_bool, kEndB_t, kEndB_f, kBlkB_t, kBlkB_f, rtO_some, rtM_cells, rvP_ptr, rvB_cells, leA_nil, leA_nilnil, leV1_agg, leV1_nil, leAs_nil, leAs_cons, leVs_nil, leVs_cons, resV_one, resV_two, evOps_nil, goOp_some, evG_no, evG_yes, gG_some, pathG_bool, pathG_gd, guardR_q, guardR_u, guardU_some, guardL_nil, guardL_cons, pathP_nil, pathP_cons, pathB_nil, pathB_cons, boolOf_bool, boolOf_gd, askL_nil, askL_cons, knowL_nil, knowL_cons, put_q, put_u, put_n, put_s, upd_at, updM_at, killS_at, ungdS_at, killM_at, killB_cells, kill3_gd', av_t, av_c, ar_t, ar_c, avs_nil, avs_cons, bind1_some', bind2_some', ev_mov, ev_not, ev_neg, ev_conv, ev_extract, ev_nilchk, un1_mov, un1_not, un1_neg, un1_conv, un1_nilchk, un1_extract, toR_some', ev_pick, pick3_some, pickV_bool, ev_arith, arith_add, arith_sub, arith_mul, arith_and, arith_or, arith_xor, arith_andNot, arith_quo, arith_rem, ev_cmp, cmp2_some, cmp_eql, cmp_neq, cmp_lss, cmp_leq, cmp_gtr, cmp_geq, cmp_eqlB, cmp_neqB, cmp_eqlS, cmp_neqS, ev_eqa, eqa2_some, eqaR_agg, eqC_nil, eqC_int, eqC_bool, eqC_str, ev_len, len_lst, len_nil, len_str, ev_minmax, mm_nil, mm_max, mm_min, ev_faddr, faddr_ptr, faddr_ep, ev_iaddrS, ev_iaddrA, iaddrA_ptr, ev_load, load_ptr, load_ep, valOf_agg, valOf_one, ev_store, store_ptr, setC_nil, setC_cons, cells_agg, cells_int, cells_bool, cells_str, cells_lst, cells_ep, cells_ptr, cells_ap, cells_vw, cells_bp, cells_fn, cells_nil, ev_alloc, ev_box, boxR_eq, ev_build, ev_bslice, fillA_nil, fillA_cons, fillS_nil, fillS_cons, ev_call, c0_int, c1_int, c2_int, c0_bool, c1_bool, c2_bool, c0_str, c1_str, c2_str, c0_lst, c1_lst, c2_lst, c0_fn, c1_fn, c2_fn, c0_nil, c1_nil, c2_nil, c1_agg, c2_agg, c2_tup, evC_skip, evC_region, evC_seq, evC_cond, evC_block, evC_loop, evC_exit, evC_ret, kEnd_at, hasG_nil, hasG_no, hasG_yes, kSeq_n, kSeq_e, kSeq_r, kBlk_n, kBlk_r, kBlk_e, kLoop_n, kLoop_e, kLoop_r, kRet_r, kRet_n, retL_nil, retL_cons, retV_t, retV_c, initM_f, initM_t, initS_at, lookL_nil, lookL_cons, lookM_nil, lookM_cons, SL_st, evC_draw, evD_nil, evD_cons, evDk_some, newOK_none, newOK_some, pairD_nil, pairD_cons, pairOK_eq, pairB_t, pairB_f, newMen_none, newMen_some, noMen_eq, noB_none, noB_some, chkR_eq, newI_none, newI_some, optN_none, optN_some, disjN_nil, disjN_cons, pslots_gd, pslots_int, pslots_bool, pslots_str, pslots_agg, pslots_tup, pslots_lst, pslots_ep, pslots_ptr, pslots_fn, pslots_nil, pslots_junk, knowD_nil, knowD_cons, preK_nil, preK_none, preK_some, preB_t, preB_f, needD_alloc, needD_box, killB_cs, needD_mov, needD_pick, needD_arith, needD_cmp, needD_eqa, needD_not, needD_neg, needD_conv, needD_b2s, needD_len, needD_minmax, needD_faddr, needD_fld, needD_iaddrS, needD_iaddrA, needD_load, needD_store, needD_build, needD_bslice, needD_extract, needD_nilchk, needD_call, needD_append, needD_slice, needD_mkslice, needD_copy, ev_append, appR_nil, appR_vw, appK_some, appV_buf, ysOf_nil, ysOf_lst, ysOf_vw, ysV_buf, killB_buf, pslots_vw, len_vw, lenV_buf, iaddrA_t, val_sel2, val_sel3, val_sel4, val_sel5, val_sel6, val_sel7, val_sel8, val_sel9, val_sel10, val_sel11, val_sel12, val_sel13, val_sel14, val_sel15, val_sel16, gv_int, ungd_int, kill3_int, kill1_int, kill0_int, frz3_int, frz1_int, frz0_int, ren3_int, ren1_int, ren0_int, leA_int, leV1_int, gv_bool, ungd_bool, kill3_bool, kill1_bool, kill0_bool, frz3_bool, frz1_bool, frz0_bool, ren3_bool, ren1_bool, ren0_bool, leA_bool, leV1_bool, gv_str, ungd_str, kill3_str, kill1_str, kill0_str, frz3_str, frz1_str, frz0_str, ren3_str, ren1_str, ren0_str, leA_str, leV1_str, gv_agg, ungd_agg, kill3_agg, kill1_agg, frz3_agg, frz1_agg, ren3_agg, ren1_agg, leA_agg, gv_tup, ungd_tup, kill3_tup, frz3_tup, ren3_tup, leA_tup, leV1_tup, gv_lst, ungd_lst, kill3_lst, kill1_lst, kill0_lst, frz3_lst, frz1_lst, frz0_lst, ren3_lst, ren1_lst, ren0_lst, leA_lst, leV1_lst, gv_ep, ungd_ep, kill3_ep, kill1_ep, kill0_ep, frz3_ep, frz1_ep, frz0_ep, ren3_ep, ren1_ep, ren0_ep, leA_ep, leV1_ep, gv_ptr, ungd_ptr, kill3_ptr, kill1_ptr, kill0_ptr, frz3_ptr, frz1_ptr, frz0_ptr, ren3_ptr, ren1_ptr, ren0_ptr, leA_ptr, leV1_ptr, gv_ap, ungd_ap, kill3_ap, kill1_ap, kill0_ap, frz3_ap, frz1_ap, frz0_ap, ren3_ap, ren1_ap, ren0_ap, leA_ap, leV1_ap, gv_vw, ungd_vw, kill3_vw, kill1_vw, kill0_vw, frz3_vw, frz1_vw, frz0_vw, ren3_vw, ren1_vw, ren0_vw, leA_vw, leV1_vw, gv_sv, ungd_sv, kill3_sv, kill1_sv, kill0_sv, frz3_sv, frz1_sv, frz0_sv, ren3_sv, ren1_sv, ren0_sv, leA_sv, leV1_sv, gv_bp, ungd_bp, kill3_bp, kill1_bp, kill0_bp, frz3_bp, frz1_bp, frz0_bp, ren3_bp, ren1_bp, ren0_bp, leA_bp, leV1_bp, gv_fr, ungd_fr, kill3_fr, kill1_fr, kill0_fr, frz3_fr, frz1_fr, frz0_fr, ren3_fr, ren1_fr, ren0_fr, leA_fr, leV1_fr, gv_fp, ungd_fp, kill3_fp, kill1_fp, kill0_fp, frz3_fp, frz1_fp, frz0_fp, ren3_fp, ren1_fp, ren0_fp, leA_fp, leV1_fp, gv_nb, ungd_nb, kill3_nb, kill1_nb, kill0_nb, frz3_nb, frz1_nb, frz0_nb, ren3_nb, ren1_nb, ren0_nb, leA_nb, leV1_nb, gv_fn, ungd_fn, kill3_fn, kill1_fn, kill0_fn, frz3_fn, frz1_fn, frz0_fn, ren3_fn, ren1_fn, ren0_fn, leA_fn, leV1_fn, gv_nil, ungd_nil, kill3_nil, kill1_nil, kill0_nil, frz3_nil, frz1_nil, frz0_nil, ren3_nil, ren1_nil, ren0_nil, gv_junk, ungd_junk, kill3_junk, kill1_junk, kill0_junk, frz3_junk, frz1_junk, frz0_junk, ren3_junk, ren1_junk, ren0_junk, leA_junk, leV1_junk, lk0_int, lk0_bool, lk0_str, lk0_agg, lk0_tup, lk0_lst, lk0_ep, lk0_ptr, lk0_ap, lk0_vw_lst, lk0_vw_vw, lk0_vw_int, lk0_vw_bool, lk0_vw_str, lk0_vw_agg, lk0_vw_tup, lk0_vw_ep, lk0_vw_ptr, lk0_vw_ap, lk0_vw_sv, lk0_vw_bp, lk0_vw_fr, lk0_vw_fp, lk0_vw_nb, lk0_vw_fn, lk0_vw_nil, lk0_vw_junk, lk0_sv_lst, lk0_sv_int, lk0_sv_bool, lk0_sv_str, lk0_sv_agg, lk0_sv_tup, lk0_sv_ep, lk0_sv_ptr, lk0_sv_ap, lk0_sv_vw, lk0_sv_sv, lk0_sv_bp, lk0_sv_fr, lk0_sv_fp, lk0_sv_nb, lk0_sv_fn, lk0_sv_nil, lk0_sv_junk, lk0_bp, lk0_fr, lk0_fp, lk0_nb, lk0_fn, lk0_nil, lk0_junk, lk1_int, lk1_bool, lk1_str, lk1_agg, lk1_tup, lk1_lst, lk1_ep, lk1_ptr, lk1_ap, lk1_vw_lst, lk1_vw_vw, lk1_vw_int, lk1_vw_bool, lk1_vw_str, lk1_vw_agg, lk1_vw_tup, lk1_vw_ep, lk1_vw_ptr, lk1_vw_ap, lk1_vw_sv, lk1_vw_bp, lk1_vw_fr, lk1_vw_fp, lk1_vw_nb, lk1_vw_fn, lk1_vw_nil, lk1_vw_junk, lk1_sv_lst, lk1_sv_int, lk1_sv_bool, lk1_sv_str, lk1_sv_agg, lk1_sv_tup, lk1_sv_ep, lk1_sv_ptr, lk1_sv_ap, lk1_sv_vw, lk1_sv_sv, lk1_sv_bp, lk1_sv_fr, lk1_sv_fp, lk1_sv_nb, lk1_sv_fn, lk1_sv_nil, lk1_sv_junk, lk1_bp, lk1_fr, lk1_fp, lk1_nb, lk1_fn, lk1_nil, lk1_junk, lkS_int, lkS_bool, lkS_str, lkS_agg, lkS_tup, lkS_lst, lkS_ep, lkS_ptr, lkS_ap, lkS_vw_lst, lkS_vw_vw, lkS_vw_int, lkS_vw_bool, lkS_vw_str, lkS_vw_agg, lkS_vw_tup, lkS_vw_ep, lkS_vw_ptr, lkS_vw_ap, lkS_vw_sv, lkS_vw_bp, lkS_vw_fr, lkS_vw_fp, lkS_vw_nb, lkS_vw_fn, lkS_vw_nil, lkS_vw_junk, lkS_sv_lst, lkS_sv_int, lkS_sv_bool, lkS_sv_str, lkS_sv_agg, lkS_sv_tup, lkS_sv_ep, lkS_sv_ptr, lkS_sv_ap, lkS_sv_vw, lkS_sv_sv, lkS_sv_bp, lkS_sv_fr, lkS_sv_fp, lkS_sv_nb, lkS_sv_fn, lkS_sv_nil, lkS_sv_junk, lkS_bp, lkS_fr, lkS_fp, lkS_nb, lkS_fn, lkS_nil_vw, lkS_nil_int, lkS_nil_bool, lkS_nil_str, lkS_nil_agg, lkS_nil_tup, lkS_nil_lst, lkS_nil_ep, lkS_nil_ptr, lkS_nil_ap, lkS_nil_sv, lkS_nil_bp, lkS_nil_fr, lkS_nil_fp, lkS_nil_nb, lkS_nil_fn, lkS_nil_nil, lkS_nil_junk, lkS_junk, lkC0_int, lkC0_bool, lkC0_str, lkC0_agg, lkC0_tup, lkC0_lst, lkC0_ep, lkC0_ptr, lkC0_ap, lkC0_vw_lst, lkC0_vw_vw, lkC0_vw_int, lkC0_vw_bool, lkC0_vw_str, lkC0_vw_agg, lkC0_vw_tup, lkC0_vw_ep, lkC0_vw_ptr, lkC0_vw_ap, lkC0_vw_sv, lkC0_vw_bp, lkC0_vw_fr, lkC0_vw_fp, lkC0_vw_nb, lkC0_vw_fn, lkC0_vw_nil, lkC0_vw_junk, lkC0_sv_lst, lkC0_sv_int, lkC0_sv_bool, lkC0_sv_str, lkC0_sv_agg, lkC0_sv_tup, lkC0_sv_ep, lkC0_sv_ptr, lkC0_sv_ap, lkC0_sv_vw, lkC0_sv_sv, lkC0_sv_bp, lkC0_sv_fr, lkC0_sv_fp, lkC0_sv_nb, lkC0_sv_fn, lkC0_sv_nil, lkC0_sv_junk, lkC0_bp, lkC0_fr, lkC0_fp, lkC0_nb, lkC0_fn, lkC0_nil_vw, lkC0_nil_int, lkC0_nil_bool, lkC0_nil_str, lkC0_nil_agg, lkC0_nil_tup, lkC0_nil_lst, lkC0_nil_ep, lkC0_nil_ptr, lkC0_nil_ap, lkC0_nil_sv, lkC0_nil_bp, lkC0_nil_fr, lkC0_nil_fp, lkC0_nil_nb, lkC0_nil_fn, lkC0_nil_nil, lkC0_nil_junk, lkC0_junk, unfr0_int, unfr0_bool, unfr0_str, unfr0_lst, unfr0_fr, unfr0_fp, unfr0_fn, unfr0_nil, unfr1_int, unfr1_bool, unfr1_str, unfr1_agg, unfr1_lst, unfr1_fr, unfr1_fp, unfr1_fn, unfr1_nil, unfr2_int, unfr2_bool, unfr2_str, unfr2_agg, unfr2_tup, unfr2_lst, unfr2_fr, unfr2_fp, unfr2_fn, unfr2_nil, frs0_int, frs0_bool, frs0_str, frs0_lst, frs0_fr, frs0_fp, frs0_fn, frs0_nil, frs1_int, frs1_bool, frs1_str, frs1_agg, frs1_lst, frs1_fr, frs1_fp, frs1_fn, frs1_nil, frs2_int, frs2_bool, frs2_str, frs2_agg, frs2_tup, frs2_lst, frs2_fr, frs2_fp, frs2_fn, frs2_nil, wfX0_int, wfX0_bool, wfX0_str, wfX0_lst, wfX0_fr, wfX0_fp, wfX0_fn, wfX0_nil, wfX1_int, wfX1_bool, wfX1_str, wfX1_agg, wfX1_lst, wfX1_fr, wfX1_fp, wfX1_fn, wfX1_nil, wfX2_int, wfX2_bool, wfX2_str, wfX2_agg, wfX2_tup, wfX2_lst, wfX2_fr, wfX2_fp, wfX2_fn, wfX2_nil, flatX0_int, flatX0_bool, flatX0_str, flatX0_lst, flatX0_fr, flatX0_fp, flatX0_fn, flatX0_nil, flatX1_int, flatX1_bool, flatX1_str, flatX1_agg, flatX1_lst, flatX1_fr, flatX1_fp, flatX1_fn, flatX1_nil, flatX2_int, flatX2_bool, flatX2_str, flatX2_agg, flatX2_tup, flatX2_lst, flatX2_fr, flatX2_fp, flatX2_fn, flatX2_nil, flat0_int, flat0_bool, flat0_str, flat0_lst, flat0_fn, flat0_nil, flat1_int, flat1_bool, flat1_str, flat1_agg, flat1_lst, flat1_fn, flat1_nil, flat2_int, flat2_bool, flat2_str, flat2_agg, flat2_tup, flat2_lst, flat2_fn, flat2_nil, flatC_int, flatC_bool, flatC_str, flatC_nil, flatC_lst, lendA_int, lendA_bool, lendA_str, lendA_lst, lendA_vw, lendA_sv, lendA_fn, lendA_nil, lend1_int, lend1_bool, lend1_str, lend1_agg, lend1_lst, lend1_vw, lend1_sv, lend1_fn, lend1_nil, vws0_int, vws0_bool, vws0_str, vws0_agg, vws0_tup, vws0_lst, vws0_ep, vws0_ptr, vws0_ap, vws0_vw, vws0_sv, vws0_bp, vws0_fr, vws0_fp, vws0_nb, vws0_fn, vws0_nil, vws0_junk, vws1_int, vws1_bool, vws1_str, vws1_agg, vws1_tup, vws1_lst, vws1_ep, vws1_ptr, vws1_ap, vws1_vw, vws1_sv, vws1_bp, vws1_fr, vws1_fp, vws1_nb, vws1_fn, vws1_nil, vws1_junk, vwsT_ep, vwsT_ptr, vwsT_ap, vwsT_bp, leX0_int, leX1_int, pq0_int, pq1_int, leX0_bool, leX1_bool, pq0_bool, pq1_bool, leX0_str, leX1_str, pq0_str, pq1_str, leX0_lst, leX1_lst, pq0_lst, pq1_lst, leX0_fn, leX1_fn, pq0_fn, pq1_fn, leX0_nil, leX1_nil, pq0_nil, pq1_nil, leX0_fr_vw, leX0_fr_nil, leX0_fp, pq0_fr_vw, pq0_fr_nil, pq0_fp, leX1_fr_vw, leX1_fr_nil, leX1_fp, pq1_fr_vw, pq1_fr_nil, pq1_fp, leX1_agg, pq1_agg, evXV_some, evX_f, evX_t, evXA_some, evXC_cells, evXB_some, evXN_some, evXM_some, evXP_eq, evXS_eq, setB_eq, backX_nil, backX_t, backX_f, putX_eq, putY_eq, addF_nil, addF_cons, frsL_nil, frsL_cons, frsV_nil, frsV_cons, flatL_nil, flatL_buf, flatL_cells, nodupN_nil, nodupN_cons, idsOK_eq, lendC_nil, lendC_cons, lends_nil, lends_cons, consL_some', aggL_some, lendB_buf, lendP_buf, lendQ_t, call_pure, call_state, callN_some, callC_cells, callB_some, callD_t, callP_some, clQ_t, callS_some, clU_t, backOK_nil, backOK_cons, frzL_nil, frzL_cons, frzQ_buf, frzQ_none, frzQ_cells, frzP_t, frzSl_at, frzM_at, frzO_none, frzO_some, frzB_cells, frzB_buf, frz3_gd', renSl_at, renM_at, renO_none, renO_cells, renO_buf, applyL_nil, applyL_frz, applyL_ren, applyL_nls, applyL_nlc, renQ_buf, renQ_none, renP_t, nlV_nil, nlP_t, nlV_vw, nlC1_cells, nlC2_nil, nlR_t, renK_t, renK_f, nlK_buf, nlKc_buf, lkAs_nil, lkAs_cons, lkVs_nil, lkVs_cons, lkC_nil, lkC_cons, lkB_cells, lkB_buf, lkL_nil, lkL_cons, lkM_nil, lkM_cons, SL_ge, SL_ge0, leL_nil, leL_cons, leM_nil, leM_cons, leB_cells, leB_buf, lkR_one, lkR_two, lkT_f, lkT_t, retOK_eq, retOK_f, retOK_t, kRetX_r, kRetX_n, retXG_eq, retX_eq, retX0_eq, resXO_some, wfRes_one, wfRes_two, resX_one, resX_two, leXV_nil, leXV_cons, leXs_nil, leXs_cons, pqR_one, pqR_two, pqV_nil, pqV_cons, pqL_nil, pqL_cons, pqK_nil, pqK_some, pqK_none, leFB_buf, leFC_cells, resXT_f, resXT_t, condK_nb, vwsL_nil, vwsL_cons, vwsG_nil, vwsG_cons, goF_eq, eo_store, eo_bslice, eo_bsliceO, eo_call, evCl_mk, evCl_ext, eo_call_g, eo_mkstr, mkS1_vw, mkS2_buf, eo_mov, eo_pick, eo_arith, eo_cmp, eo_eqa, eo_not, eo_neg, eo_conv, eo_b2s, eo_len, eo_minmax, eo_faddr, eo_fld, eo_iaddrS, eo_iaddrA, eo_load, eo_alloc, eo_box, eo_build, eo_extract, eo_nilchk, eo_append, eo_slice, eo_mkslice, eo_s2b, eo_idxS, eo_idxV, eo_callv, eo_eqnil, eo_shl, eo_shr, ev_bsliceO, ev_eqnil, ev_shl, ev_shr, ev_b2s, ev_s2b, ev_idxS, ev_idxV, ev_slice, ev_mkslice, ev_fld, ev_callv, blO2_some, iaV_some, idxVR_c, ivR_some, clV_some, clW_t, nil_nil, nil_lst, nil_vw, nilV_buf, shl_int, shr_int, shQ_t, b2s_nil, b2s_lst, b2s_vw, b2sB_buf, b2s_sv, b2sP_buf, s2b_str, idxS_str, boundA_none, boundA_some, optS_some, sliceO_some, slice_lst, slL_some, slice_nil, slN_some, slice_vw, slB_buf, slV_some, slice_sv, slX_t, slP_buf, slU_some, loOf_none, loOf_int, hiOf_none, hiOf_int, mk_int, fldR_agg, iaddrS_lst, iaddrS_vw, iasV_buf, iasW_t, iaddrS_sv, iasP_buf, iasX_t, faddr_bp, load_bp, ldP_buf, ldQ_t, store_bp, stP_buf, stQ_t, ysOf_sv, ysP_buf, ysQ_t, cells_fr, cells_sv, needD_bsliceO, needD_eqnil, needD_mkstr, needD_shl, needD_shr, needD_s2b, needD_idxS, needD_idxV, needD_callv, pslots_sv, pslots_bp, pslots_nb, mergeU_eq1, mgC_cells, mgU_some, mergeL_nil, mergeL_cons, mergeA_int, mergeA_bool, mergeA_lst, bits_i64, bits_u8, bits_u16, bits_u32, bits_u64, ungd_gd, gv_gd, reduceIte, Nat.reduceEqDiff, Nat.reduceMul, Nat.reduceAdd, Nat.reduceBEq, Option.getD_some, Option.getD_none, List.length_cons, List.length_nil, List.getElem?_cons_succ, List.getElem?_cons_zero, List.drop_zero, List.drop_succ_cons, List.take_succ_cons, List.take_zero, List.map_cons, List.map_nil, List.all_cons, List.all_nil, List.contains_cons, List.contains_nil, List.nil_append, List.cons_append, List.set_cons_zero, List.set_cons_succ, List.replicate_succ, List.replicate_zero, List.getD_cons_zero, List.getD_cons_succ, beq_self_eq_true, Bool.and_self, Bool.or_false, Bool.true_or, Bool.or_true, Bool.and_true, Bool.true_and, Bool.cond_true_left, Bool.cond_false_right, and_true, true_and, true_imp_iff, and_self, imp_self, implies_true, Nat.mul_one, Nat.reduceLeDiff, decide_true, decide_false, if_true, if_false, Nat.zero_mul, Nat.add_zero, Nat.zero_add, Int.toNat_natCast, Int.reduceToNat, Int.reduceLE, Int.reduceLT, Nat.reduceLT, i64s_len, getE_i64, Bool.not_true, Bool.cond_self, Bool.not_false, Bool.false_eq_true, Bool.true_eq_false, false_imp_iff, List.length_map, getE_u8, u8s_len, CV, CS, CA, CT, CC, CR, CJ, CM, CD, CW, Ck.av, Ck.cs, Ck.eta, E.av, E.cs, E.eta, cks_len, getE_ck, evs_len, getE_ev, W, decI_i64s, CDl, CRl, CDx, CDb, CDy, CDe, CIs, CMk, i64s_rep, i64s_set, List.length_replicate, List.length_set, decE_evs]
  intro _
  refine ⟨⟨0, by omega, by intro j hj; omega⟩, rfl, ?_⟩
  rintro ⟨i, hi, hb⟩
  dsimp only
  refine ⟨fun hc => ?_, fun hc _ => ?_⟩
  · have hc := of_decide_eq_true hc
    have hc2 : i < l.length := by omega
    have e1 : IntKind.i64.wrap ((i : Int) + 1) = ((i + 1 : Nat) : Int) := by rw [wr_in _ (by omega) (by omega)]; omega
    have e2 : IntKind.i64.wrap ((i : Int) - 1) = (i : Int) - 1 := wr_in _ (by omega) (by omega)
    have e3 : ((i : Int) - 1).toNat = i - 1 := by omega
    have e4 : decide (((i + 1 : Nat) : Int) = (l.length : Int)) = decide (i + 1 = l.length) := by rw [decide_eq_decide]; omega
    have e5 : decide ((i : Int) = 0) = decide (i = 0) := by rw [decide_eq_decide]; omega
    rw [e1, e2, e3, e4, e5, Int.toNat_natCast]
    refine ⟨⟨by omega, by omega⟩, fun _ => ⟨fun h => ?_, fun h => ?_, fun h => ?_, fun h => ?_⟩⟩
    · have h2 := of_decide_eq_false (Option.some.inj h.2)
      omega
    · have h2 := of_decide_eq_false (Option.some.inj h.2.2)
      omega
    · have h' : badR l i = true := h
      have e : okR l = false := by
        cases e : okR l with
        | false => rfl
        | true => rw [(okR_iff l).mp e i hc2] at h'; cases h'
      exact ⟨by simp [recL, e, i64s], by simp [recE, e]⟩
    · have h' : badR l i = false := h
      refine ⟨⟨i + 1, by omega, fun j hj => ?_⟩, rfl, by simp only [L25]; omega⟩
      by_cases hji : j = i
      · rw [hji]; exact h'
      · exact hb j (by omega)
  · have hc := of_decide_eq_false hc
    have ho : okR l = true := (okR_iff l).mpr fun j hj => hb j (by omega)
    refine ⟨⟨by omega, by omega, by omega, by omega⟩, fun _ => ?_⟩
    refine ⟨⟨0, by omega, ho⟩, ⟨⟨rfl, AV.int_inj' (by dsimp only; rw [wr_in _ (by omega) (by omega)]; omega)⟩, by rw [outR_0]⟩, ?_⟩
    rintro ⟨k, hk, ho⟩
    dsimp only
    rw [outR_len]
    refine ⟨fun hc => ?_, fun hc => ?_⟩
    · have hc := of_decide_eq_true hc
      have hk2 : k < l.length := by omega
      have e3 : ((l.length : Int) - 1 - k).toNat = l.length - 1 - k := by omega
      have e4 : IntKind.i64.wrap ((l.length : Int) - 1 - k - 1) = (l.length : Int) - 1 - k - 1 := wr_in _ (by omega) (by omega)
      have e5 : ((l.length : Int) - 1 - k - 1).toNat = l.length - 1 - k - 1 := by omega
      have e6 : (l.length : Int) - 1 - k - 1 = (l.length : Int) - 1 - ((k + 1 : Nat) : Int) := by omega
      rw [e4, e3, e5]
      refine ⟨⟨by omega, by omega⟩, fun _ => ⟨⟨by omega, by omega⟩, fun _ => ⟨by omega, ⟨by omega, by omega⟩, fun _ => ⟨fun hx => ?_, fun hx => ?_⟩⟩⟩⟩
      · have h0 := okR_128 ho (by omega) hx
        refine ⟨⟨by omega, by omega⟩, ⟨by omega, by omega⟩, fun _ _ => ⟨⟨k + 1, by omega, ho⟩, ⟨⟨AV.int_inj' ?_, AV.int_inj' e6⟩, congrArg i64s (outR_set l hk2)⟩, by simp only [L25b]; omega⟩⟩
        simp only [dkR, hx, if_true]; rfl
      · refine ⟨⟨k + 1, by omega, ho⟩, ⟨⟨AV.int_inj' ?_, AV.int_inj' e6⟩, congrArg i64s (outR_set l hk2)⟩, by simp only [L25b]; omega⟩
        simp only [dkR, hx]; rfl
    · have hc := of_decide_eq_false hc
      have hkl : k = l.length := by omega
      subst hkl
      exact ⟨by simp only [recL, ho, if_true], by simp only [recE, ho, if_true]⟩
set_option maxHeartbeats 4000000 in
theorem walk26 {Phi : Nat → Option Ctr} (P34 : Phi 34 = some CMk) (l : List E) (hl : l.length ≤ 100000) : evC Phi (I26 l) rc26 ⟨initS [.lst [.int .u16 0, .int .u32 0, .int .u16 0, .int .u8 0, .int .u8 0, .int .u8 0, .bool false, .int .u8 0, .int .u8 0, .int .u8 0] (evs l)], initM false []⟩ (kRet rv26 (.tup [.lst [.int .i64 0] (i64s (recL l)), .int .i64 (recE l)]) false []) := by
  simp (config := {maxSteps := 2000000}) only [rc26, rv26, P34, mark1, mark2, I26a, I26b, L26S, L26R, L26bS, L26bR, S26, S26b, gvB_true, beqO_some, killO_none, killO_some, consO_some, eqaB_t, eqaB_f, andO_some, mmO_some, iasB_true, iaA_some, ldV_some, ldB_cells, valB_true, stC_true, stB_cells, bxO_some, blO_some, blS_some, faK_some, faC_some, fsK_some, fsC_some, clO_some, condK_bool, kEndB_t, kEndB_f, kBlkB_t, kBlkB_f, rtO_some, rtM_cells, rvP_ptr, rvB_cells, leA_nil, leA_nilnil, leV1_agg, leV1_nil, leAs_nil, leAs_cons, leVs_nil, leVs_cons, resV_one, resV_two, evOps_nil, goOp_some, evG_no, evG_yes, gG_some, pathG_bool, pathG_gd, guardR_q, guardR_u, guardU_some, guardL_nil, guardL_cons, pathP_nil, pathP_cons, pathB_nil, pathB_cons, boolOf_bool, boolOf_gd, askL_nil, askL_cons, knowL_nil, knowL_cons, put_q, put_u, put_n, put_s, upd_at, updM_at, killS_at, ungdS_at, killM_at, killB_cells, kill3_gd', av_t, av_c, ar_t, ar_c, avs_nil, avs_cons, bind1_some', bind2_some', ev_mov, ev_not, ev_neg, ev_conv, ev_extract, ev_nilchk, un1_mov, un1_not, un1_neg, un1_conv, un1_nilchk, un1_extract, toR_some', ev_pick, pick3_some, pickV_bool, ev_arith, arith_add, arith_sub, arith_mul, arith_and, arith_or, arith_xor, arith_andNot, arith_quo, arith_rem, ev_cmp, cmp2_some, cmp_eql, cmp_neq, cmp_lss, cmp_leq, cmp_gtr, cmp_geq, cmp_eqlB, cmp_neqB, cmp_eqlS, cmp_neqS, ev_eqa, eqa2_some, eqaR_agg, eqC_nil, eqC_int, eqC_bool, eqC_str, ev_len, len_lst, len_nil, len_str, ev_minmax, mm_nil, mm_max, mm_min, ev_faddr, faddr_ptr, faddr_ep, ev_iaddrS, ev_iaddrA, iaddrA_ptr, ev_load, load_ptr, load_ep, valOf_agg, valOf_one, ev_store, store_ptr, setC_nil, setC_cons, cells_agg, cells_int, cells_bool, cells_str, cells_lst, cells_ep, cells_ptr, cells_ap, cells_vw, cells_bp, cells_fn, cells_nil, ev_alloc, ev_box, boxR_eq, ev_build, ev_bslice, fillA_nil, fillA_cons, fillS_nil, fillS_cons, ev_call, c0_int, c1_int, c2_int, c0_bool, c1_bool, c2_bool, c0_str, c1_str, c2_str, c0_lst, c1_lst, c2_lst, c0_fn, c1_fn, c2_fn, c0_nil, c1_nil, c2_nil, c1_agg, c2_agg, c2_tup, evC_skip, evC_region, evC_seq, evC_cond, evC_block, evC_loop, evC_exit, evC_ret, kEnd_at, hasG_nil, hasG_no, hasG_yes, kSeq_n, kSeq_e, kSeq_r, kBlk_n, kBlk_r, kBlk_e, kLoop_n, kLoop_e, kLoop_r, kRet_r, kRet_n, retL_nil, retL_cons, retV_t, retV_c, initM_f, initM_t, initS_at, lookL_nil, lookL_cons, lookM_nil, lookM_cons, SL_st, evC_draw, evD_nil, evD_cons, evDk_some, newOK_none, newOK_some, pairD_nil, pairD_cons, pairOK_eq, pairB_t, pairB_f, newMen_none, newMen_some, noMen_eq, noB_none, noB_some, chkR_eq, newI_none, newI_some, optN_none, optN_some, disjN_nil, disjN_cons, pslots_gd, pslots_int, pslots_bool, pslots_str, pslots_agg, pslots_tup, pslots_lst, pslots_ep, pslots_ptr, pslots_fn, pslots_nil, pslots_junk, knowD_nil, knowD_cons, preK_nil, preK_none, preK_some, preB_t, preB_f, needD_alloc, needD_box, killB_cs, needD_mov, needD_pick, needD_arith, needD_cmp, needD_eqa, needD_not, needD_neg, needD_conv, needD_b2s, needD_len, needD_minmax, needD_faddr, needD_fld, needD_iaddrS, needD_iaddrA, needD_load, needD_store, needD_build, needD_bslice, needD_extract, needD_nilchk, needD_call, needD_append, needD_slice, needD_mkslice, needD_copy, ev_append, appR_nil, appR_vw, appK_some, appV_buf, ysOf_nil, ysOf_lst, ysOf_vw, ysV_buf, killB_buf, pslots_vw, len_vw, lenV_buf, iaddrA_t, val_sel2, val_sel3, val_sel4, val_sel5, val_sel6, val_sel7, val_sel8, val_sel9, val_sel10, val_sel11, val_sel12, val_sel13, val_sel14, val_sel15, val_sel16, gv_int, ungd_int, kill3_int, kill1_int, kill0_int, frz3_int, frz1_int, frz0_int, ren3_int, ren1_int, ren0_int, leA_int, leV1_int, gv_bool, ungd_bool, kill3_bool, kill1_bool, kill0_bool, frz3_bool, frz1_bool, frz0_bool, ren3_bool, ren1_bool, ren0_bool, leA_bool, leV1_bool, gv_str, ungd_str, kill3_str, kill1_str, kill0_str, frz3_str, frz1_str, frz0_str, ren3_str, ren1_str, ren0_str, leA_str, leV1_str, gv_agg, ungd_agg, kill3_agg, kill1_agg, frz3_agg, frz1_agg, ren3_agg, ren1_agg, leA_agg, gv_tup, ungd_tup, kill3_tup, frz3_tup, ren3_tup, leA_tup, leV1_tup, gv_lst, ungd_lst, kill3_lst, kill1_lst, kill0_lst, frz3_lst, frz1_lst, frz0_lst, ren3_lst, ren1_lst, ren0_lst, leA_lst, leV1_lst, gv_ep, ungd_ep, kill3_ep, kill1_ep, kill0_ep, frz3_ep, frz1_ep, frz0_ep, ren3_ep, ren1_ep, ren0_ep, leA_ep, leV1_ep, gv_ptr, ungd_ptr, kill3_ptr, kill1_ptr, kill0_ptr, frz3_ptr, frz1_ptr, frz0_ptr, ren3_ptr, ren1_ptr, ren0_ptr, leA_ptr, leV1_ptr, gv_ap, ungd_ap, kill3_ap, kill1_ap, kill0_ap, frz3_ap, frz1_ap, frz0_ap, ren3_ap, ren1_ap, ren0_ap, leA_ap, leV1_ap, gv_vw, ungd_vw, kill3_vw, kill1_vw, kill0_vw, frz3_vw, frz1_vw, frz0_vw, ren3_vw, ren1_vw, ren0_vw, leA_vw, leV1_vw, gv_sv, ungd_sv, kill3_sv, kill1_sv, kill0_sv, frz3_sv, frz1_sv, frz0_sv, ren3_sv, ren1_sv, ren0_sv, leA_sv, leV1_sv, gv_bp, ungd_bp, kill3_bp, kill1_bp, kill0_bp, frz3_bp, frz1_bp, frz0_bp, ren3_bp, ren1_bp, ren0_bp, leA_bp, leV1_bp, gv_fr, ungd_fr, kill3_fr, kill1_fr, kill0_fr, frz3_fr, frz1_fr, frz0_fr, ren3_fr, ren1_fr, ren0_fr, leA_fr, leV1_fr, gv_fp, ungd_fp, kill3_fp, kill1_fp, kill0_fp, frz3_fp, frz1_fp, frz0_fp, ren3_fp, ren1_fp, ren0_fp, leA_fp, leV1_fp, gv_nb, ungd_nb, kill3_nb, kill1_nb, kill0_nb, frz3_nb, frz1_nb, frz0_nb, ren3_nb, ren1_nb, ren0_nb, leA_nb, leV1_nb, gv_fn, ungd_fn, kill3_fn, kill1_fn, kill0_fn, frz3_fn, frz1_fn, frz0_fn, ren3_fn, ren1_fn, ren0_fn, leA_fn, leV1_fn, gv_nil, ungd_nil, kill3_nil, kill1_nil, kill0_nil, frz3_nil, frz1_nil, frz0_nil, ren3_nil, ren1_nil, ren0_nil, gv_junk, ungd_junk, kill3_junk, kill1_junk, kill0_junk, frz3_junk, frz1_junk, frz0_junk, ren3_junk, ren1_junk, ren0_junk, leA_junk, leV1_junk, lk0_int, lk0_bool, lk0_str, lk0_agg, lk0_tup, lk0_lst, lk0_ep, lk0_ptr, lk0_ap, lk0_vw_lst, lk0_vw_vw, lk0_vw_int, lk0_vw_bool, lk0_vw_str, lk0_vw_agg, lk0_vw_tup, lk0_vw_ep, lk0_vw_ptr, lk0_vw_ap, lk0_vw_sv, lk0_vw_bp, lk0_vw_fr, lk0_vw_fp, lk0_vw_nb, lk0_vw_fn, lk0_vw_nil, lk0_vw_junk, lk0_sv_lst, lk0_sv_int, lk0_sv_bool, lk0_sv_str, lk0_sv_agg, lk0_sv_tup, lk0_sv_ep, lk0_sv_ptr, lk0_sv_ap, lk0_sv_vw, lk0_sv_sv, lk0_sv_bp, lk0_sv_fr, lk0_sv_fp, lk0_sv_nb, lk0_sv_fn, lk0_sv_nil, lk0_sv_junk, lk0_bp, lk0_fr, lk0_fp, lk0_nb, lk0_fn, lk0_nil, lk0_junk, lk1_int, lk1_bool, lk1_str, lk1_agg, lk1_tup, lk1_lst, lk1_ep, lk1_ptr, lk1_ap, lk1_vw_lst, lk1_vw_vw, lk1_vw_int, lk1_vw_bool, lk1_vw_str, lk1_vw_agg, lk1_vw_tup, lk1_vw_ep, lk1_vw_ptr, lk1_vw_ap, lk1_vw_sv, lk1_vw_bp, lk1_vw_fr, lk1_vw_fp, lk1_vw_nb, lk1_vw_fn, lk1_vw_nil, lk1_vw_junk, lk1_sv_lst, lk1_sv_int, lk1_sv_bool, lk1_sv_str, lk1_sv_agg, lk1_sv_tup, lk1_sv_ep, lk1_sv_ptr, lk1_sv_ap, lk1_sv_vw, lk1_sv_sv, lk1_sv_bp, lk1_sv_fr, lk1_sv_fp, lk1_sv_nb, lk1_sv_fn, lk1_sv_nil, lk1_sv_junk, lk1_bp, lk1_fr, lk1_fp, lk1_nb, lk1_fn, lk1_nil, lk1_junk, lkS_int, lkS_bool, lkS_str, lkS_agg, lkS_tup, lkS_lst, lkS_ep, lkS_ptr, lkS_ap, lkS_vw_lst, lkS_vw_vw, lkS_vw_int, lkS_vw_bool, lkS_vw_str, lkS_vw_agg, lkS_vw_tup, lkS_vw_ep, lkS_vw_ptr, lkS_vw_ap, lkS_vw_sv, lkS_vw_bp, lkS_vw_fr, lkS_vw_fp, lkS_vw_nb, lkS_vw_fn, lkS_vw_nil, lkS_vw_junk, lkS_sv_lst, lkS_sv_int, lkS_sv_bool, lkS_sv_str, lkS_sv_agg, lkS_sv_tup, lkS_sv_ep, lkS_sv_ptr, lkS_sv_ap, lkS_sv_vw, lkS_sv_sv, lkS_sv_bp, lkS_sv_fr, lkS_sv_fp, lkS_sv_nb, lkS_sv_fn, lkS_sv_nil, lkS_sv_junk, lkS_bp, lkS_fr, lkS_fp, lkS_nb, lkS_fn, lkS_nil_vw, lkS_nil_int, lkS_nil_bool, lkS_nil_str, lkS_nil_agg, lkS_nil_tup, lkS_nil_lst, lkS_nil_ep, lkS_nil_ptr, lkS_nil_ap, lkS_nil_sv, lkS_nil_bp, lkS_nil_fr, lkS_nil_fp, lkS_nil_nb, lkS_nil_fn, lkS_nil_nil, lkS_nil_junk, lkS_junk, lkC0_int, lkC0_bool, lkC0_str, lkC0_agg, lkC0_tup, lkC0_lst, lkC0_ep, lkC0_ptr, lkC0_ap, lkC0_vw_lst, lkC0_vw_vw, lkC0_vw_int, lkC0_vw_bool, lkC0_vw_str, lkC0_vw_agg, lkC0_vw_tup, lkC0_vw_ep, lkC0_vw_ptr, lkC0_vw_ap, lkC0_vw_sv, lkC0_vw_bp, lkC0_vw_fr, lkC0_vw_fp, lkC0_vw_nb, lkC0_vw_fn, lkC0_vw_nil, lkC0_vw_junk, lkC0_sv_lst, lkC0_sv_int, lkC0_sv_bool, lkC0_sv_str, lkC0_sv_agg, lkC0_sv_tup, lkC0_sv_ep, lkC0_sv_ptr, lkC0_sv_ap, lkC0_sv_vw, lkC0_sv_sv, lkC0_sv_bp, lkC0_sv_fr, lkC0_sv_fp, lkC0_sv_nb, lkC0_sv_fn, lkC0_sv_nil, lkC0_sv_junk, lkC0_bp, lkC0_fr, lkC0_fp, lkC0_nb, lkC0_fn, lkC0_nil_vw, lkC0_nil_int, lkC0_nil_bool, lkC0_nil_str, lkC0_nil_agg, lkC0_nil_tup, lkC0_nil_lst, lkC0_nil_ep, lkC0_nil_ptr, lkC0_nil_ap, lkC0_nil_sv, lkC0_nil_bp, lkC0_nil_fr, lkC0_nil_fp, lkC0_nil_nb, lkC0_nil_fn, lkC0_nil_nil, lkC0_nil_junk, lkC0_junk, unfr0_int, unfr0_bool, unfr0_str, unfr0_lst, unfr0_fr, unfr0_fp, unfr0_fn, unfr0_nil, unfr1_int, unfr1_bool, unfr1_str, unfr1_agg, unfr1_lst, unfr1_fr, unfr1_fp, unfr1_fn, unfr1_nil, unfr2_int, unfr2_bool, unfr2_str, unfr2_agg, unfr2_tup, unfr2_lst, unfr2_fr, unfr2_fp, unfr2_fn, unfr2_nil, frs0_int, frs0_bool, frs0_str, frs0_lst, frs0_fr, frs0_fp, frs0_fn, frs0_nil, frs1_int, frs1_bool, frs1_str, frs1_agg, frs1_lst, frs1_fr, frs1_fp, frs1_fn, frs1_nil, frs2_int, frs2_bool, frs2_str, frs2_agg, frs2_tup, frs2_lst, frs2_fr, frs2_fp, frs2_fn, frs2_nil, wfX0_int, wfX0_bool, wfX0_str, wfX0_lst, wfX0_fr, wfX0_fp, wfX0_fn, wfX0_nil, wfX1_int, wfX1_bool, wfX1_str, wfX1_agg, wfX1_lst, wfX1_fr, wfX1_fp, wfX1_fn, wfX1_nil, wfX2_int, wfX2_bool, wfX2_str, wfX2_agg, wfX2_tup, wfX2_lst, wfX2_fr, wfX2_fp, wfX2_fn, wfX2_nil, flatX0_int, flatX0_bool, flatX0_str, flatX0_lst, flatX0_fr, flatX0_fp, flatX0_fn, flatX0_nil, flatX1_int, flatX1_bool, flatX1_str, flatX1_agg, flatX1_lst, flatX1_fr, flatX1_fp, flatX1_fn, flatX1_nil, flatX2_int, flatX2_bool, flatX2_str, flatX2_agg, flatX2_tup, flatX2_lst, flatX2_fr, flatX2_fp, flatX2_fn, flatX2_nil, flat0_int, flat0_bool, flat0_str, flat0_lst, flat0_fn, flat0_nil, flat1_int, flat1_bool, flat1_str, flat1_agg, flat1_lst, flat1_fn, flat1_nil, flat2_int, flat2_bool, flat2_str, flat2_agg, flat2_tup, flat2_lst, flat2_fn, flat2_nil, flatC_int, flatC_bool, flatC_str, flatC_nil, flatC_lst, lendA_int, lendA_bool, lendA_str, lendA_lst, lendA_vw, lendA_sv, lendA_fn, lendA_nil, lend1_int, lend1_bool, lend1_str, lend1_agg, lend1_lst, lend1_vw, lend1_sv, lend1_fn, lend1_nil, vws0_int, vws0_bool, vws0_str, vws0_agg, vws0_tup, vws0_lst, vws0_ep, vws0_ptr, vws0_ap, vws0_vw, vws0_sv, vws0_bp, vws0_fr, vws0_fp, vws0_nb, vws0_fn, vws0_nil, vws0_junk, vws1_int, vws1_bool, vws1_str, vws1_agg, vws1_tup, vws1_lst, vws1_ep, vws1_ptr, vws1_ap, vws1_vw, vws1_sv, vws1_bp, vws1_fr, vws1_fp, vws1_nb, vws1_fn, vws1_nil, vws1_junk, vwsT_ep, vwsT_ptr, vwsT_ap, vwsT_bp, leX0_int, leX1_int, pq0_int, pq1_int, leX0_bool, leX1_bool, pq0_bool, pq1_bool, leX0_str, leX1_str, pq0_str, pq1_str, leX0_lst, leX1_lst, pq0_lst, pq1_lst, leX0_fn, leX1_fn, pq0_fn, pq1_fn, leX0_nil, leX1_nil, pq0_nil, pq1_nil, leX0_fr_vw, leX0_fr_nil, leX0_fp, pq0_fr_vw, pq0_fr_nil, pq0_fp, leX1_fr_vw, leX1_fr_nil, leX1_fp, pq1_fr_vw, pq1_fr_nil, pq1_fp, leX1_agg, pq1_agg, evXV_some, evX_f, evX_t, evXA_some, evXC_cells, evXB_some, evXN_some, evXM_some, evXP_eq, evXS_eq, setB_eq, backX_nil, backX_t, backX_f, putX_eq, putY_eq, addF_nil, addF_cons, frsL_nil, frsL_cons, frsV_nil, frsV_cons, flatL_nil, flatL_buf, flatL_cells, nodupN_nil, nodupN_cons, idsOK_eq, lendC_nil, lendC_cons, lends_nil, lends_cons, consL_some', aggL_some, lendB_buf, lendP_buf, lendQ_t, call_pure, call_state, callN_some, callC_cells, callB_some, callD_t, callP_some, clQ_t, callS_some, clU_t, backOK_nil, backOK_cons, frzL_nil, frzL_cons, frzQ_buf, frzQ_none, frzQ_cells, frzP_t, frzSl_at, frzM_at, frzO_none, frzO_some, frzB_cells, frzB_buf, frz3_gd', renSl_at, renM_at, renO_none, renO_cells, renO_buf, applyL_nil, applyL_frz, applyL_ren, applyL_nls, applyL_nlc, renQ_buf, renQ_none, renP_t, nlV_nil, nlP_t, nlV_vw, nlC1_cells, nlC2_nil, nlR_t, renK_t, renK_f, nlK_buf, nlKc_buf, lkAs_nil, lkAs_cons, lkVs_nil, lkVs_cons, lkC_nil, lkC_cons, lkB_cells, lkB_buf, lkL_nil, lkL_cons, lkM_nil, lkM_cons, SL_ge, SL_ge0, leL_nil, leL_cons, leM_nil, leM_cons, leB_cells, leB_buf, lkR_one, lkR_two, lkT_f, lkT_t, retOK_eq, retOK_f, retOK_t, kRetX_r, kRetX_n, retXG_eq, retX_eq, retX0_eq, resXO_some, wfRes_one, wfRes_two, resX_one, resX_two, leXV_nil, leXV_cons, leXs_nil, leXs_cons, pqR_one, pqR_two, pqV_nil, pqV_cons, pqL_nil, pqL_cons, pqK_nil, pqK_some, pqK_none, leFB_buf, leFC_cells, resXT_f, resXT_t, condK_nb, vwsL_nil, vwsL_cons, vwsG_nil, vwsG_cons, goF_eq, eo_store, eo_bslice, eo_bsliceO, eo_call, evCl_mk, evCl_ext, eo_call_g, eo_mkstr, mkS1_vw, mkS2_buf, eo_mov, eo_pick, eo_arith, eo_cmp, eo_eqa, eo_not, eo_neg, eo_conv, eo_b2s, eo_len, eo_minmax, eo_faddr, eo_fld, eo_iaddrS, eo_iaddrA, eo_load, eo_alloc, eo_box, eo_build, eo_extract, eo_nilchk, eo_append, eo_slice, eo_mkslice, eo_s2b, eo_idxS, eo_idxV, eo_callv, eo_eqnil, eo_shl, eo_shr, ev_bsliceO, ev_eqnil, ev_shl, ev_shr, ev_b2s, ev_s2b, ev_idxS, ev_idxV, ev_slice, ev_mkslice, ev_fld, ev_callv, blO2_some, iaV_some, idxVR_c, ivR_some, clV_some, clW_t, nil_nil, nil_lst, nil_vw, nilV_buf, shl_int, shr_int, shQ_t, b2s_nil, b2s_lst, b2s_vw, b2sB_buf, b2s_sv, b2sP_buf, s2b_str, idxS_str, boundA_none, boundA_some, optS_some, sliceO_some, slice_lst, slL_some, slice_nil, slN_some, slice_vw, slB_buf, slV_some, slice_sv, slX_t, slP_buf, slU_some, loOf_none, loOf_int, hiOf_none, hiOf_int, mk_int, fldR_agg, iaddrS_lst, iaddrS_vw, iasV_buf, iasW_t, iaddrS_sv, iasP_buf, iasX_t, faddr_bp, load_bp, ldP_buf, ldQ_t, store_bp, stP_buf, stQ_t, ysOf_sv, ysP_buf, ysQ_t, cells_fr, cells_sv, needD_bsliceO, needD_eqnil, needD_mkstr, needD_shl, needD_shr, needD_s2b, needD_idxS, needD_idxV, needD_callv, pslots_sv, pslots_bp, pslots_nb, mergeU_eq1, mgC_cells, mgU_some, mergeL_nil, mergeL_cons, mergeA_int, mergeA_bool, mergeA_lst, bits_i64, bits_u8, bits_u16, bits_u32, bits_u64, ungd_gd, gv_gd, reduceIte, Nat.reduceEqDiff, Nat.reduceMul, Nat.reduceAdd, Nat.reduceBEq, Option.getD_some, Option.getD_none, List.length_cons, List.length_nil, List.getElem?_cons_succ, List.getElem?_cons_zero, List.drop_zero, List.drop_succ_cons, List.take_succ_cons, List.take_zero, List.map_cons, List.map_nil, List.all_cons, List.all_nil, List.contains_cons, List.contains_nil, List.nil_append, List.cons_append, List.set_cons_zero, List.set_cons_succ, List.replicate_succ, List.replicate_zero, List.getD_cons_zero, List.getD_cons_succ, beq_self_eq_true, Bool.and_self, Bool.or_false, Bool.true_or, Bool.or_true, Bool.and_true, Bool.true_and, Bool.cond_true_left, Bool.cond_false_right, and_true, true_and, true_imp_iff, and_self, imp_self, implies_true, Nat.mul_one, Nat.reduceLeDiff, decide_true, decide_false, if_true, if_false, Nat.zero_mul, Nat.add_zero, Nat.zero_add, Int.toNat_natCast, Int.reduceToNat, Int.reduceLE, Int.reduceLT, Nat.reduceLT, i64s_len, getE_i64, Bool.not_true, Bool.cond_self, Bool.not_false, Bool.false_eq_true, Bool.true_eq_false, false_imp_iff, List.length_map, getE_u8, u8s_len, CV, CS, CA, CT, CC, CR, CJ, CM, CD, CW, Ck.av, Ck.cs, Ck.eta, E.av, E.cs, E.eta, cks_len, getE_ck, evs_len, getE_ev, W, decI_i64s, CDl, CRl, CDx, CDb, CDy, CDe, CIs, CMk, i64s_rep, i64s_set, List.length_replicate, List.length_set, decE_evs]
  intro _
  refine ⟨⟨0, by omega, by intro j hj; omega⟩, rfl, ?_⟩
  rintro ⟨i, hi, hb⟩
  dsimp only
  refine ⟨fun hc => ?_, fun hc => ?_⟩
  · have hc := of_decide_eq_true hc
    have hc2 : i < l.length := by omega
    have e1 : IntKind.i64.wrap ((i : Int) + 1) = ((i + 1 : Nat) : Int) := by rw [wr_in _ (by omega) (by omega)]; omega
    have e2 : IntKind.i64.wrap ((i : Int) - 1) = (i : Int) - 1 := wr_in _ (by omega) (by omega)
    have e3 : ((i : Int) - 1).toNat = i - 1 := by omega
    have e4 : decide (((i + 1 : Nat) : Int) = (l.length : Int)) = decide (i + 1 = l.length) := by rw [decide_eq_decide]; omega
    have e5 : decide ((i : Int) = 0) = decide (i = 0) := by rw [decide_eq_decide]; omega
    rw [e1, e2, e3, e4, e5, Int.toNat_natCast]
    refine ⟨⟨by omega, by omega⟩, fun _ => ⟨fun h => ?_, fun h => ?_, fun h => ?_, fun h => ?_⟩⟩
    · have h2 := of_decide_eq_false (Option.some.inj h.2)
      omega
    · have h2 := of_decide_eq_false (Option.some.inj h.2.2)
      omega
    · have h' : badR l i = true := h
      have e : okR l = false := by
        cases e : okR l with
        | false => rfl
        | true => rw [(okR_iff l).mp e i hc2] at h'; cases h'
      exact ⟨by simp [recL, e, i64s], by simp [recE, e]⟩
    · have h' : badR l i = false := h
      refine ⟨⟨i + 1, by omega, fun j hj => ?_⟩, rfl, by simp only [L26]; omega⟩
      by_cases hji : j = i
      · rw [hji]; exact h'
      · exact hb j (by omega)
  · have hc := of_decide_eq_false hc
    have ho : okR l = true := (okR_iff l).mpr fun j hj => hb j (by omega)
    refine ⟨⟨by omega, by omega, by omega, by omega⟩, ?_⟩
    refine ⟨⟨0, by omega, ho⟩, ⟨⟨rfl, AV.int_inj' (by dsimp only; rw [wr_in _ (by omega) (by omega)]; omega)⟩, by rw [outR_0]⟩, ?_⟩
    rintro ⟨k, hk, ho⟩
    dsimp only
    rw [outR_len]
    refine ⟨fun hc => ?_, fun hc => ?_⟩
    · have hc := of_decide_eq_true hc
      have hk2 : k < l.length := by omega
      have e3 : ((l.length : Int) - 1 - k).toNat = l.length - 1 - k := by omega
      have e4 : IntKind.i64.wrap ((l.length : Int) - 1 - k - 1) = (l.length : Int) - 1 - k - 1 := wr_in _ (by omega) (by omega)
      have e5 : ((l.length : Int) - 1 - k - 1).toNat = l.length - 1 - k - 1 := by omega
      have e6 : (l.length : Int) - 1 - k - 1 = (l.length : Int) - 1 - ((k + 1 : Nat) : Int) := by omega
      rw [e4, e3, e5]
      refine ⟨⟨by omega, by omega⟩, fun _ => ⟨⟨by omega, by omega⟩, fun _ => ⟨by omega, ⟨by omega, by omega⟩, fun _ => ⟨fun hx => ?_, fun hx => ?_⟩⟩⟩⟩
      · have h0 := okR_128 ho (by omega) hx
        refine ⟨⟨by omega, by omega⟩, ⟨by omega, by omega⟩, fun _ _ => ⟨⟨k + 1, by omega, ho⟩, ⟨⟨AV.int_inj' ?_, AV.int_inj' e6⟩, congrArg i64s (outR_set l hk2)⟩, by simp only [L26b]; omega⟩⟩
        simp only [dkR, hx, if_true]; rfl
      · refine ⟨⟨k + 1, by omega, ho⟩, ⟨⟨AV.int_inj' ?_, AV.int_inj' e6⟩, congrArg i64s (outR_set l hk2)⟩, by simp only [L26b]; omega⟩
        simp only [dkR, hx]; rfl
    · have hc := of_decide_eq_false hc
      have hkl : k = l.length := by omega
      subst hkl
      exact ⟨by simp only [recL, ho, if_true], by simp only [recE, ho, if_true]⟩
end Go.Proofs.Ytmcaedjlglpdeaa
